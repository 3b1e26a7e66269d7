/- Lemmas. -/
import Derived.Test.YtknfcamdfdfoeaaGreatDoorMac
import Derived.Test.YtknfcamdfdfoeaaGreatDoorZ18
import Derived.Test.YtknfcamdfdfoeaaGreatDoorZ29
import Derived.Test.YtknfcamdfdfoeaaGreatDoorZ12
import Derived.Test.YtknfcamdfdfoeaaGreatDoorZ31
import Derived.Deep.CutRange
set_option linter.unusedVariables false
set_option linter.unusedSimpArgs false
set_option maxRecDepth 100000
set_option maxHeartbeats 64000000
namespace Go.Proofs.YtknfcamdfdfoeaaGreatDoor
open Go.RowKit
def dOf (p:Pl):Int:=if p.met=true then p.d else -1
structure Mir (ps:List Pl) (D F:List Int):Prop where
 d:D=ps.map dOf
 f:F=ps.map (·.f)
def Kar (op N:Int) (k:Nat):List Nat:=if op=10 then [((k:Int)+1+N).toNat] else if op=11 then [k+1,((k:Int)+1+N).toNat] else [k+1]
def goW (d fu:Int) (ps:List Pl):List Nat->List Int->List Int->Prop
 | [],D,F=>Mir ps D F
 | t :: r,D,F=>t<D.length/\t<F.length/\(D.getD t 0<0\/D.getD t 0=d)/\goW d fu ps r (D.set t d) (F.set t (max (F.getD t 0) fu))
theorem Kay {ps:List Pl} {g:Pl->Int} {t:Nat} {p:Pl} (h:ps[t]?=some p):(ps.map g).getD t 0=g p:=by
 rw [List.getD_eq_getElem?_getD,List.getElem?_map,h];rfl
theorem Mir.come {k n:Nat} {ps ps':List Pl} {D F:List Int} {t:Nat} {dep d fu:Int} (h:Mir ps D F) (aw:Jaa k n dep ps) (hfu:0<=fu) (hc:Ja5 ps t d fu=some ps') :
  t<D.length/\t<F.length/\(D.getD t 0<0\/D.getD t 0=d)/\Mir ps' (D.set t d) (F.set t (max (F.getD t 0) fu)):=by
 obtain⟨rfl,rfl⟩:=h;unfold Ja5 at hc
 cases hx:ps[t]? with
 | none=>rw [hx] at hc;cases hc
 | some p=>
  rw [hx] at hc;have am:=(Nh hx).1;have hp:=aw.all t p hx;rw [Kay hx,Kay hx];dsimp only at hc
  split at hc
  ·rename_i hm
   split at hc
   ·rename_i hd;injection hc with hc;subst hc;refine⟨Bc,Bc,.inr (by unfold dOf;rw [if_pos hm,hd]),?_,?_⟩
    ·rw [List.map_set,hd];rfl
    ·rw [List.map_set]
   ·cases hc
  ·rename_i hm;injection hc with hc;subst hc;have h0:=hp.2.2.2.2 (by simpa using hm);refine⟨Bc,Bc,.inl (by unfold dOf;rw [if_neg hm];decide),?_,?_⟩
   ·rw [List.map_set];rfl
   ·rw [List.map_set,h0.2,show max 0 fu=fu by omega]
theorem Ka4 {ps ps':List Pl} {j:Nat} {d f:Int} (h:Ja5 ps j d f=some ps'):ps'.length=ps.length/\(ps'.getD j Pl.no).met=true/\∀i,(ps.getD i Pl.no).met=true->(ps'.getD i Pl.no).met=true:=by
 unfold Ja5 at h
 cases hx:ps[j]? with
 | none=>rw [hx] at h;cases h
 | some p=>
  rw [hx] at h;have am:=(Nh hx).1
  have key:∀q:Pl,q.met=true->(ps.set j q).length=ps.length/\((ps.set j q).getD j Pl.no).met=true/\∀i,(ps.getD i Pl.no).met=true->((ps.set j q).getD i Pl.no).met=true:=fun q hq=>by
   refine⟨List.length_set,by rw [List.getD_eq_getElem?_getD,List.getElem?_set,if_pos rfl,if_pos am];exact hq,fun i hi=>?_⟩;rw [List.getD_eq_getElem?_getD,List.getElem?_set]
   by_cases hj:j=i
   ·rw [if_pos hj,if_pos am];exact hq
   ·rw [if_neg hj,<-List.getD_eq_getElem?_getD];exact hi
  dsimp only at h
  split at h
  ·split at h
   ·injection h with h;subst h;exact key _ rfl
   ·cases h
  ·injection h with h;subst h;exact key _ rfl
structure Kc3 (f:Fr) (k n:Nat) (op N:Int) (ps:List Pl) (D F:List Int) (dep:Int) (res:Int×List Pl×Int):Prop where
 right:Qj (op,N)=0
 room:¬(0<=Xn op f/\Xn op f<=N)
 dk:D.getD k 0=(ps.getD k Pl.no).d
 fk:F.getD k 0=(ps.getD k Pl.no).f
 lo:Ky op<=D.getD k 0
 hi:D.getD k 0-Ky op+Kan op<=16
 dep:res.2.2=max dep (D.getD k 0-Ky op+Kan op)
 ways:∀t∈Kar op N k,t<=n/\k<t
 go:goW (D.getD k 0-Ky op+Kan op) (F.getD k 0+1) res.2.1 (Kar op N k) D F
 last:k+1=n->(res.2.1.getD n Pl.no).met=true
theorem Ka5 {op N:Int} (h:Qj (op,N)=0) (ho:op=10\/op=11):0<=N/\N<=65535:=by
 exact Ufy
theorem Kcx {f:Fr} {k n:Nat} {op N:Int} {ps:List Pl} {D F:List Int} {dep:Int} (h:Mir ps D F) (aw:Jaa k n dep ps) (hk:k<n) (h0:(Jct f k (op,N) ps dep).1=0) :
  Kc3 f k n op N ps D F dep (Jct f k (op,N) ps dep):=by
 have ai:=aw.len;have hx:ps[k]?=some ps[k]:=Ng Ua;have hg:=aw.get k;have oL:ps.getD k Pl.no=ps[k]:=by rw [List.getD_eq_getElem?_getD,hx];rfl
 rw [oL] at hg;have hDk:D.getD k 0=dOf ps[k]:=by rw [h.d];exact Kay hx
 have hFk:F.getD k 0=ps[k].f:=by rw [h.f];exact Kay (g:=(·.f)) hx
 obtain⟨R,hR⟩:∃R,R=Jct f k (op,N) ps dep:=⟨_,rfl⟩;rw [<-hR] at h0 ⊢;unfold Jct at hR;rw [oL] at hR;generalize ps[k]=p at *;dsimp only at hR
 by_cases c1:Qj (op,N)≠0
 ·rw [if_pos c1] at hR;rw [hR] at h0;exact absurd h0 c1
 rw [if_neg c1] at hR
 by_cases c2:0<=Xn op f/\Xn op f<=N
 ·rw [if_pos c2] at hR;rw [hR] at h0;exact absurd (show(10:Int)=0 from h0) Ux
 rw [if_neg c2] at hR
 by_cases c3:p.met=false
 ·rw [if_pos c3] at hR;rw [hR] at h0;exact absurd (show(13:Int)=0 from h0) Ux
 rw [if_neg c3] at hR;have hm:p.met=true:=Bp;have hD:D.getD k 0=p.d:=by rw [hDk];unfold dOf;rw [if_pos hm]
 by_cases c4:p.d<Ky op\/16<p.d-Ky op+Kan op
 ·rw [if_pos c4] at hR;rw [hR] at h0;exact absurd (show(12:Int)=0 from h0) Ux
 rw [if_neg c4] at hR
 by_cases c5:(op=10\/op=11)/\(ps.length:Int)<=k+1+N
 ·rw [if_pos c5] at hR;rw [hR] at h0;exact absurd (show(11:Int)=0 from h0) Ux
 rw [if_neg c5] at hR;have hr:Qj (op,N)=0:=Bi;have hfu:0<=p.f+1:=Ua
 have key:R.2.2=max dep (p.d-Ky op+Kan op)->(∀t∈Kar op N k,t<=n/\k<t)->goW (p.d-Ky op+Kan op) (p.f+1) R.2.1 (Kar op N k) D F->(k+1=n->(R.2.1.getD n Pl.no).met=true)->Kc3 f k n op N ps D F dep R:=fun e1 e2 e3 e4=>
  ⟨hr,c2,by rw [hD,oL],by rw [hFk,oL],Ua,Ua,by rw [hD];exact e1,e2,by rw [hD,hFk];exact e3,e4⟩
 have ht:=Jjp op;have hgv:=Jj1 op;have hd16:0<=p.d-Ky op+Kan op/\p.d-Ky op+Kan op<=16:=Ua;generalize p.d-Ky op+Kan op=d at *
 by_cases o10:op=10
 ·rw [if_pos o10] at hR;dsimp only at hR;rw [if_pos (.inl o10)] at hR;have hN:=Ka5 hr (.inl o10)
  cases hc:Ja5 ps ((k:Int)+1+N).toNat d (p.f+1) with
  | none=>rw [hc] at hR;rw [hR] at h0;exact absurd (show(12:Int)=0 from h0) Ux
  | some ps2=>
   rw [hc] at hR;subst hR;obtain⟨g1,g2,g3,g4⟩:=h.come aw hfu hc;refine key rfl (fun t ht=>?_) ?_ fun hl=>?_
   ·unfold Kar at ht;rw [if_pos o10] at ht;simp only [List.mem_singleton] at ht;exact Ua
   ·unfold Kar;rw [if_pos o10];exact⟨g1,g2,g3,g4⟩
   ·have:=(Ka4 hc).2.1
    rwa [show((k:Int)+1+N).toNat=n by omega] at this
 rw [if_neg o10] at hR
 cases hc:Ja5 ps (k+1) d (p.f+1) with
 | none=>rw [hc] at hR;rw [hR] at h0;exact absurd (show(12:Int)=0 from h0) Ux
 | some ps1=>
  rw [hc] at hR;dsimp only at hR;obtain⟨g1,g2,g3,g4⟩:=h.come aw hfu hc;have bI:=Ka4 hc
  by_cases o11:op=11
  ·rw [if_pos (.inr o11)] at hR;have hN:=Ka5 hr (.inr o11)
   cases dm:Ja5 ps1 ((k:Int)+1+N).toNat d (p.f+1) with
   | none=>rw [dm] at hR;rw [hR] at h0;exact absurd (show(12:Int)=0 from h0) Ux
   | some ps2=>
    rw [dm] at hR;subst hR;have uz:=(aw.more (Nat.le_succ k)).come hc hd16 Ua;obtain⟨k1,k2,k3,k4⟩:=g4.come uz hfu dm;refine key rfl (fun t ht=>?_) ?_ fun hl=>?_
    ·unfold Kar at ht;rw [if_neg o10,if_pos o11] at ht;simp only [List.mem_cons,List.not_mem_nil,or_false] at ht;exact Ua
    ·unfold Kar;rw [if_neg o10,if_pos o11];exact⟨g1,g2,g3,k1,k2,k3,k4⟩
    ·exact(Ka4 dm).2.2 n (by rw [<-hl];exact bI.2.1)
  ·rw [if_neg Ua] at hR;subst hR;refine key rfl (fun t ht=>?_) ?_ fun hl=>?_
   ·unfold Kar at ht;rw [if_neg o10,if_neg o11] at ht;simp only [List.mem_singleton] at ht;exact Ua
   ·unfold Kar;rw [if_neg o10,if_neg o11];exact⟨g1,g2,g3,g4⟩
   ·rw [<-hl];exact bI.2.1
end Go.Proofs.YtknfcamdfdfoeaaGreatDoor
namespace Go.Proofs.YtknfcamdfdfoeaaGreatDoor
open Go.RowKit Go.Sort
theorem Kch (f:Fr) (w:World) (h:f.good=true):Calls Tryz.prog 63 #[frV f] w fun r w'=>r = .returned (.int .i64 0)/\Below w.heap.size w w':=by
 obtain⟨s,o,n,i,u⟩:=f;unfold Fr.good inB at h;simp only [Bool.and_eq_true,decide_eq_true_eq] at h;unfold frV;dsimp only at *;have d1:decide (s<0)=false:=Uj;have d2:decide (24<s)=false:=Uj;have d3:decide (o<0)=false:=Uj;have d4:decide (16<o)=false:=Uj;have d5:decide (n<0)=false:=Uj;have d6:decide (16<n)=false:=Uj;have d7:decide (i<0)=false:=Uj;have d8:decide (8<i)=false:=Uj;have d9:decide (u<0)=false:=Uj;have d0:decide (8<u)=false:=Uj;clear h
 go_enter Tryz.func63,Tryz.ntmps63
 go_wp2_with fail
 go_ret;exact⟨rfl,Jb⟩
theorem Kcv (op:Int) (f:Fr) (w:World):Calls Tryz.prog 65 #[.int .i64 op,frV f] w fun r w'=>r = .returned (.int .i64 (Xn op f))/\Below w.heap.size w w':=by
 obtain⟨s,o,n,i,u⟩:=f;unfold frV;dsimp only
 rcases Jul op with h|rfl|rfl|rfl|rfl|rfl|rfl|rfl|rfl|rfl|rfl|rfl
 ·obtain⟨t1,t2,t3,t4,t5,t6,t7,t8,t9,t10,t11⟩:=h
  have hv:Xn op ⟨s,o,n,i,u⟩ = -1:=by
   simp only [beq_eq_false_iff_ne,ne_eq] at *;unfold Xn;rw [if_neg Ua,if_neg Ua,if_neg Ua,if_neg Ua,if_neg Ua]
  have HV:=Nf hv;clear hv
  go_enter Tryz.func65,Tryz.ntmps65
  exact Uc9
 all_goals
  go_enter Tryz.func65,Tryz.ntmps65
  go_wp2_with fail
  go_ret;exact⟨Jm (by simp [Xn]),Jb⟩
theorem Kcm (op:Int) (w:World):Calls Tryz.prog 66 #[.int .i64 op] w fun r w'=>r = .returned (.int .i64 (Ky op))/\w'=w:=by
 rcases Jul op with h|rfl|rfl|rfl|rfl|rfl|rfl|rfl|rfl|rfl|rfl|rfl
 ·obtain⟨t1,t2,t3,t4,t5,t6,t7,t8,t9,t10,t11⟩:=h
  have hv:Ky op=0:=by
   simp only [beq_eq_false_iff_ne,ne_eq] at *;unfold Ky;rw [if_neg Ua,if_neg Ua]
  have HV:=Nf hv;clear hv
  go_enter Tryz.func66,Tryz.ntmps66
  exact Ugk
 all_goals
  go_enter Tryz.func66,Tryz.ntmps66
  go_wp2_with fail
  go_ret;exact⟨Jm Ux,rfl⟩
theorem Kco (op:Int) (w:World):Calls Tryz.prog 67 #[.int .i64 op] w fun r w'=>r = .returned (.int .i64 (Kan op))/\w'=w:=by
 rcases Jul op with h|rfl|rfl|rfl|rfl|rfl|rfl|rfl|rfl|rfl|rfl|rfl
 ·obtain⟨t1,t2,t3,t4,t5,t6,t7,t8,t9,t10,t11⟩:=h
  have hv:Kan op=0:=by
   simp only [beq_eq_false_iff_ne,ne_eq] at *;unfold Kan;rw [if_neg Ua]
  have HV:=Nf hv;clear hv
  go_enter Tryz.func67,Tryz.ntmps67
  exact Ugk
 all_goals
  go_enter Tryz.func67,Tryz.ntmps67
  go_wp2_with fail
  go_ret;exact⟨Jm Ux,rfl⟩
def Kas (W:World) (b:Nat) (l:List Int):Prop:=∀(k:Nat) (x:Int),l[k]?=some x->W.cell? ⟨b,k,none⟩=some (.int .i64 x)
def Kaw (l:List Nat):List Int:=l.map Int.ofNat
theorem Kbq (W:World) (c:Array Value) (t:TypeId) {u:Int} {b:Nat} (hc:c = #[.int .i64 u]) (hb:W.heap.size=b):Kas (W.alloc (.cells c t)) b [u]:=by
 subst hc hb;intro k x hk;rw [Kw]
 match k with
 | 0=>simpa using hk
 | k+1=>simp at hk
theorem Kcw (W:World) (c:Array Value) (t:TypeId) {u v:Int} {b:Nat} (hc:c = #[.int .i64 u,.int .i64 v]) (hb:W.heap.size=b):Kas (W.alloc (.cells c t)) b [u,v]:=by
 subst hc hb;intro k x hk;rw [Kw]
 match k with
 | 0=>simpa using hk
 | 1=>simpa using hk
 | k+2=>simp at hk
theorem Kcs (op N:Int) (k:Nat) (w:World) (hk:k<=600) (hN:I32 N) (h:op=10\/op=11->0<=N) :
  Calls Tryz.prog 68 #[.agg #[.int .i64 op,.int .i32 N],.int .i64 k] w fun r w'=>(∃b,r = .returned (.slice (some ⟨b,0,none⟩) (Kar op N k).length (Kar op N k).length)/\w.heap.size<=b/\b<w'.heap.size/\Kas w' b (Kaw (Kar op N k)))/\Below w.heap.size w w':=by
 unfold I32 at hN
 by_cases bM:op=10
 ·have hv:Kar op N k = [((k:Int)+1+N).toNat]/\Kaw (Kar op N k) = [(k:Int)+1+N]:=by
   have:=h (.inl bM);unfold Kar Kaw;rw [if_pos bM];simp;omega
  obtain⟨fC,aI⟩:=hv;rw [aI,fC];have t10:(op == 10)=true:=Fb;clear fC aI bM h;exact Ugg
 ·have t10:(op == 10)=false:=Fb
  by_cases gh:op=11
  ·have hv:Kar op N k = [k+1,((k:Int)+1+N).toNat]/\Kaw (Kar op N k) = [(k:Int)+1,(k:Int)+1+N]:=by
    have:=h (.inr gh);unfold Kar Kaw;rw [if_neg bM,if_pos gh];simp;omega
   obtain⟨fC,aI⟩:=hv;rw [aI,fC];have t11:(op == 11)=true:=Sy;clear fC aI bM gh h
   go_enter Tryz.func68,Tryz.ntmps68
   go_wp2_with fail
   go_ret;exact⟨⟨_,rfl,Ul,Ul,Kcw _ _ _ rfl Ul⟩,Jb⟩
  ·have hv:Kar op N k = [k+1]/\Kaw (Kar op N k) = [(k:Int)+1]:=by
    unfold Kar Kaw;rw [if_neg bM,if_neg gh];simp
   obtain⟨fC,aI⟩:=hv;rw [aI,fC];have t11:(op == 11)=false:=Sy;clear fC aI bM gh h;exact Ugg
theorem Kbt:(Tryz.prog.info? 3).map (fun i=>(i.zero,i.size,i.bytes))=some (some (.int .i64 0),1,8):=Ug
def inI (l:List Int):List Value:=l.map (.int .i64)
theorem Kc2 (a b:List Int):inI (a ++ b)=inI a ++ inI b:=by unfold inI;simp
theorem Ka8 {l:List Int} {k:Nat} {x:Int} (h:l[k]?=some x):(inI l)[k]?=some (.int .i64 x):=by unfold inI;rw [List.getElem?_map,h];rfl
structure RJ (w:World) (f:Fr) (gD gF:Nat) (D F:List Int) (W:World):Prop where
 bel:Below w.heap.size w W
 rd:Kas W gD D
 rf:Kas W gF F
 fd:∀o,W.frozen? ⟨gD,o,none⟩=false
 ff:∀o,W.frozen? ⟨gF,o,none⟩=false
 z:w.heap.size+2<=gD/\w.heap.size+2<=gF/\gD≠gF/\gD<W.heap.size/\gF<W.heap.size
 k:W.cell? ⟨w.heap.size,0,none⟩=some (.int .i64 f.s)/\W.cell? ⟨w.heap.size,1,none⟩=some (.int .i64 f.o)/\W.cell? ⟨w.heap.size,2,none⟩=some (.int .i64 f.n)/\W.cell? ⟨w.heap.size,3,none⟩=some (.int .i64 f.i)/\W.cell? ⟨w.heap.size,4,none⟩=some (.int .i64 f.u)
 r:W.cell? ⟨w.heap.size+1,0,none⟩=some (.int .i64 0)/\W.cell? ⟨w.heap.size+1,1,none⟩=some (.int .i64 0)/\W.frozen? ⟨w.heap.size+1,0,none⟩=false/\W.frozen? ⟨w.heap.size+1,1,none⟩=false
theorem Kas.later {W W':World} {b:Nat} {l:List Int} (h:Kas W b l) (hb:Below W.heap.size W W'):Kas W' b l:=fun k x hk=>Ja hb (h k x hk)
theorem Kas.get {W:World} {b:Nat} {l:List Int} (h:Kas W b l) {k:Nat} (hk:k<l.length):W.cell? ⟨b,k,none⟩=some (.int .i64 (l.getD k 0)):=by
 refine h k _ ?_;rw [List.getD_eq_getElem?_getD,Ng hk];rfl
theorem Kas.blk {W:World} {b g o:Nat} {l:List Int} (h:Kas W b l) (hg:b≠g) (u:Value):Kas (W.setCell ⟨g,o,none⟩ u) b l:=fun k x hk=>(Qm _ _ _ _ _ _ hg).trans (h k x hk)
theorem Kas.set {W:World} {b:Nat} {l:List Int} (h:Kas W b l) (t:Nat) (x:Int):Kas (W.setCell ⟨b,t,none⟩ (.int .i64 x)) b (l.set t x):=fun k y hk=>by
 rw [List.getElem?_set] at hk
 by_cases ht:t=k
 ·rw [if_pos ht] at hk;subst ht
  by_cases hl:t<l.length
  ·rw [if_pos hl] at hk;injection hk with hk;subst hk;exact Nx _ _ _ (h.get hl)
  ·rw [if_neg hl] at hk;cases hk
 ·rw [if_neg ht] at hk;rw [J5 _ _ _ _ _ (fun he=>ht he.symm)];exact h k y hk
theorem RJ.later {w:World} {f:Fr} {gD gF:Nat} {D F:List Int} {W W':World} (h:RJ w f gD gF D F W) (hb:Below W.heap.size W W'):RJ w f gD gF D F W':=by
 have hz:=h.z;have hw:=h.bel.size
 exact⟨Jd h.bel hb,h.rd.later hb,h.rf.later hb,fun o=>(Jf hb _ _ hz.2.2.2.1).trans (h.fd o),fun o=>(Jf hb _ _ hz.2.2.2.2).trans (h.ff o),⟨hz.1,hz.2.1,hz.2.2.1,Dx,Dx⟩,
  ⟨Ja hb h.k.1,Ja hb h.k.2.1,Ja hb h.k.2.2.1,Ja hb h.k.2.2.2.1,Ja hb h.k.2.2.2.2⟩,⟨Ja hb h.r.1,Ja hb h.r.2.1,(Jf hb _ _ Ua).trans h.r.2.2.1,(Jf hb _ _ Ua).trans h.r.2.2.2⟩⟩
theorem RJ.put {w:World} {f:Fr} {gD gF:Nat} {D F D' F':List Int} {W:World} {g o:Nat} {u:Value} (h:RJ w f gD gF D F W) (hg:g=gD\/g=gF) (hd:Kas (W.setCell ⟨g,o,none⟩ u) gD D') (hf:Kas (W.setCell ⟨g,o,none⟩ u) gF F'):RJ w f gD gF D' F' (W.setCell ⟨g,o,none⟩ u):=by
 have hz:=h.z;have c:=fun(b o':Nat) (v:Value) (hb:b<w.heap.size+2) hc=>(Qm W g o b o' u Ua).trans (show W.cell? ⟨b,o',none⟩=some v from hc)
 exact⟨Below.setCell h.bel (show w.heap.size<=g by omega) _,hd,hf,fun o=>(World.frozen?_setCell ..).trans (h.fd o),fun o=>(World.frozen?_setCell ..).trans (h.ff o),Mg,
  ⟨c _ _ _ Ua h.k.1,c _ _ _ Ua h.k.2.1,c _ _ _ Ua h.k.2.2.1,c _ _ _ Ua h.k.2.2.2.1,c _ _ _ Ua h.k.2.2.2.2⟩,⟨c _ _ _ Ua h.r.1,c _ _ _ Ua h.r.2.1,(World.frozen?_setCell ..).trans h.r.2.2.1,(World.frozen?_setCell ..).trans h.r.2.2.2⟩⟩
theorem RJ.setD {w:World} {f:Fr} {gD gF:Nat} {D F:List Int} {W:World} (h:RJ w f gD gF D F W) (t:Nat) (x:Int):RJ w f gD gF (D.set t x) F (W.setCell ⟨gD,t,none⟩ (.int .i64 x)):=h.put (.inl rfl) (h.rd.set t x) (h.rf.blk (Ne.symm h.z.2.2.1) _)
theorem RJ.setF {w:World} {f:Fr} {gD gF:Nat} {D F:List Int} {W:World} (h:RJ w f gD gF D F W) (t:Nat) (x:Int):RJ w f gD gF D (F.set t x) (W.setCell ⟨gF,t,none⟩ (.int .i64 x)):=h.put (.inr rfl) (h.rd.blk h.z.2.2.1 _) (h.rf.set t x)
theorem RJ.drew {w:World} {f:Fr} {gD gF:Nat} {D F:List Int} {W:World} (h:RJ w f gD gF D F W) (n:Nat):RJ w f gD gF D F (W.drewN n):=h.later (J8 (Nt) n)
structure RJi (w:World) (f:Fr) (gD gF:Nat) (D F:List Int) (b:Nat) (op N:Int) (W:World):Prop where
 st:RJ w f gD gF D F W
 q:W.cell? ⟨b,0,none⟩=some (.int .i64 op)/\W.cell? ⟨b,1,none⟩=some (.int .i32 N)
 ne:b≠gD/\b≠gF
theorem RJi.later {w:World} {f:Fr} {gD gF:Nat} {D F:List Int} {b:Nat} {op N:Int} {W W':World} (h:RJi w f gD gF D F b op N W) (hb:Below W.heap.size W W'):RJi w f gD gF D F b op N W':=
 ⟨h.st.later hb,⟨Ja hb h.q.1,Ja hb h.q.2⟩,h.ne⟩
theorem RJi.setD {w:World} {f:Fr} {gD gF:Nat} {D F:List Int} {b:Nat} {op N:Int} {W:World} (h:RJi w f gD gF D F b op N W) (t:Nat) (x:Int):RJi w f gD gF (D.set t x) F b op N (W.setCell ⟨gD,t,none⟩ (.int .i64 x)):=
 ⟨h.st.setD t x,⟨(Qm _ _ _ _ _ _ h.ne.1).trans h.q.1,(Qm _ _ _ _ _ _ h.ne.1).trans h.q.2⟩,h.ne⟩
theorem RJi.setF {w:World} {f:Fr} {gD gF:Nat} {D F:List Int} {b:Nat} {op N:Int} {W:World} (h:RJi w f gD gF D F b op N W) (t:Nat) (x:Int):RJi w f gD gF D (F.set t x) b op N (W.setCell ⟨gF,t,none⟩ (.int .i64 x)):=
 ⟨h.st.setF t x,⟨(Qm _ _ _ _ _ _ h.ne.2).trans h.q.1,(Qm _ _ _ _ _ _ h.ne.2).trans h.q.2⟩,h.ne⟩
theorem Kbv {W W':World} {base n size:Nat} {e:TypeId} {v:Value} {xs:List Value} {r:Option Nat} (ho:W.ownsRow base e size v n xs) (hg:W.grownBy W' r) (hs:∀b,v.ownBlock=some b->r≠some b):W'.ownsRow base e size v n xs:=
 (J6.grown (S:=fun k=>r=some k) hg (fun _ hk=>hk)).own hs ho
theorem Kbl {W:World} {base n size:Nat} {e:TypeId} {u v v2:Value} {xs:List Value} (h:∀b,v.ownBlock=some b->u.ownBlock≠some b) (nk:v2.ownBlock=v.ownBlock\/∀k,v2.ownBlock=some k->W.heap.size<=k) (hu:W.ownsRow base e size u n xs) :
  ∀b,v2.ownBlock=some b->u.ownBlock≠some b:=fun b hb he=>by
 rcases nk with h2|h2
 ·exact h b (h2 ▸ hb) he
 ·have h3:=(hu.lt b he).2;have:=h2 b hb;exact Ua
theorem Kcf (k:Nat) (x:Int):inI (List.replicate (k+1) x)=inI (List.replicate k x) ++ [.int .i64 x]:=by rw [List.replicate_succ',Kc2];rfl
theorem Ka0 (c:List (Int×Int)) (A:Option Addr) (cap:Nat) (f:Fr) (w:World) (hc:J3 w c A cap) (hN:∀i∈c,I32 i.2) (h:(Yi c f).2.1=0) :
  Calls Tryz.prog 38 #[.slice A c.length cap,frV f] w fun r w'=>r = .returned (.tuple #[.agg #[.int .i64 (Yi c f).1.1,.int .i64 (Yi c f).1.2],.int .i64 0,.int .i64 0])/\Below w.heap.size w w':=by
 obtain⟨J,hJ⟩:∃J,J=Yi c f:=⟨_,rfl⟩;rw [<-hJ] at h ⊢;unfold Yi at hJ
 by_cases hg:f.good=false
 ·rw [if_pos hg] at hJ;rw [hJ] at h;exact absurd h Ux
 rw [if_neg hg] at hJ
 by_cases dP:600<c.length
 ·rw [if_pos dP] at hJ;rw [hJ] at h;exact absurd h Ux
 rw [if_neg dP] at hJ;have fq:=fun W=>Kch f W (by simpa using hg);have tb:¬(600:Int)<(c.length:Int):=Ua;have bO:=hc.1;have fG:=hc.2.1;unfold maxLen at fG;have HC:=Nf hc;have HN:=Nf hN;have HJ:=Nf hJ;have H0:=Nf h;unfold frV at *;clear hc hN hJ h hg
 go_enter Tryz.func38,Tryz.ntmps38
 go_wp2_with (first|(go_at_call 63;refine(fq _).mono ?_;rintro r w1 ⟨rfl,ac⟩))
 have af:w.heap.size+2<=w1.heap.size:=V9;have aC:=Nd w w1 Jb;have k0:=Na w1 w.heap.size 0 f.s (Ja ac Uq);have k1:=Na w1 w.heap.size 1 f.o (Ja ac Uq);have k2:=Na w1 w.heap.size 2 f.n (Ja ac Uq);have k3:=Na w1 w.heap.size 3 f.i (Ja ac Uq);have k4:=Na w1 w.heap.size 4 f.u (Ja ac Uq);have g0:=Na w1 (w.heap.size+1) 0 0 (Ja ac Uq);have g1:=Na w1 (w.heap.size+1) 1 0 (Ja ac Uq);have f0:=Nc w1 (w.heap.size+1) 0 ((Jf ac _ _ Ul).trans Uq);have f1:=Nc w1 (w.heap.size+1) 1 ((Jf ac _ _ Ul).trans Uq);have HK:=Nf (And.intro k0 (And.intro k1 (And.intro k2 (And.intro k3 k4))));have HG:=Nf (And.intro g0 (And.intro g1 (And.intro f0 f1)));have HBW:=Nf aC;clear ac fq k0 k1 k2 k3 k4 g0 g1 f0 f1 aC
 go_loopw [8,9,10] (fun vd vf i wr=>∃k:Nat,k<=c.length+1/\i = .int .i64 k/\wr.ownsRow w1.heap.size 3 1 vd k (inI (List.replicate k (-1)))/\wr.ownsRow w1.heap.size 3 1 vf k (inI (List.replicate k 0))/\Hid (∀b,vd.ownBlock=some b->vf.ownBlock≠some b)/\Below w1.heap.size w1 wr) (fun _ _ i _=>c.length+1-(intOf i).toNat)
 case atStart=>exact⟨0,Np,rfl,Nw,Nw,Nf (fun b hb=>by cases hb),Nt⟩
 case round=>
  obtain⟨k,hk,rfl,hd,hf,ra,ab⟩:=hrel;have hz:=ab.size;obtain⟨Ad,cd,rfl,js,gN⟩:=Jv hd;obtain⟨Af,cf,rfl,db,gO⟩:=Jv hf;unfold maxLen at gN gO
  by_cases am:k<c.length+1
  ·have tk:(k:Int)<=(c.length:Int):=Ua;have e1:=Kcf k (-1);have e2:=Kcf k 0;have E1:=Nf e1;have E2:=Nf e2;clear e1 e2
   go_wp2_with (first
    | (have hg:=ao;at_builtin;go_loud (refine Z2 rfl (.tmp 38) (.tmp 39) 77 rfl w1.heap.size 3 _ 1 8 Tryz.underlying77 Kbt rfl Ua (.slice Af k cf) k (inI (List.replicate k 0)) w2.heap.size 1 1 [.int .i64 0] rfl (Js hf2') rfl rfl (fun j u hj=>U9) Uv Ua Ua Uj ?_;intro v3 w3 aE bJ iM))
    | (at_builtin;go_loud (refine Z2 rfl (.tmp 35) (.tmp 36) 77 rfl w1.heap.size 3 _ 1 8 Tryz.underlying77 Kbt rfl Ua (.slice Ad k cd) k (inI (List.replicate k (-1))) wr.heap.size 1 1 [.int .i64 (-1)] rfl (Js hd) rfl rfl (fun j u hj=>U9) Uv Ua Ua Uj ?_;intro v2 w2 ao aG aI;have hf2':=Kbv (Js hf) aG (fun b hb he=>ra.out b he hb);have hap2:=Kbl ra.out aI (Js hf);have aq:=Nd w1 w2 (J2 (Jc ab _) aG (fun b hb=>(hd.lt b hb).1) Uj);have br:=aq.size)))
   go_roundw
   case rel=>
    refine⟨k+1,Ua,Up,?_,by rw [E2.out];exact aE,Nf ?_,?_⟩
    ·rw [E1.out];exact Kbv (Js ao) bJ (fun b hb=>hap2 b hb)
    ·exact fun b hb he=>Kbl (fun b hb he=>hap2 b he hb) iM (Js ao) b he hb
    ·exact J2 (Jc aq _) bJ (fun b hb=>(hf.lt b hb).1) Uj
   case measure=>simp [intOf];omega
  ·obtain rfl:k=c.length+1:=Ua;have tk:¬((c.length+1:Nat):Int)<=(c.length:Int):=Ua;obtain⟨gD,cD,vD,dD,dlt,-,-,dcell⟩:=Kc hd Ua;obtain⟨gF,cF,vF,dF,flt,-,-,fcell⟩:=Kc hf Ua;injection vD with e1 e2 e3;injection vF with e4 e5 e6;subst e1 e3 e4 e6;have dh:=Jd HBW.out ab;have hk:=HK.out;have hg:=HG.out
   have hrj:RJ w f gD gF (List.replicate (c.length+1) (-1)) (List.replicate (c.length+1) 0) wr:=
    ⟨dh,fun j x hj=>dcell j _ (Ka8 hj),fun j x hj=>fcell j _ (Ka8 hj),hd.frozenAt,hf.frozenAt,⟨Ua,Ua,fun he=>ra.out gD rfl (by rw [he];rfl),dlt,flt⟩,
     ⟨Ja ab hk.1,Ja ab hk.2.1,Ja ab hk.2.2.1,Ja ab hk.2.2.2.1,Ja ab hk.2.2.2.2⟩,⟨Ja ab hg.1,Ja ab hg.2.1,(Jf ab _ _ Ua).trans hg.2.2.1,(Jf ab _ _ Ua).trans hg.2.2.2⟩⟩
   have hgne:=hrj.z.2.2.1;have hrj0:=hrj.setD 0 0;rw [show(List.replicate (c.length+1) (-1:Int)).set 0 0=(Jdk c.length).map dOf by unfold Jdk;rw [List.replicate_succ];simp [dOf,Pl.no]] at hrj0;rw [show(List.replicate (c.length+1) (0:Int))=(Jdk c.length).map (·.f) by unfold Jdk;rw [List.replicate_succ];simp [Pl.no]] at hrj0;have d0:=Na wr gD 0 (-1) (dcell 0 _ (Ka8 T9));have q0:=Nc wr gD 0 (hd.frozenAt 0);have HRJ:=Nf hrj0;have jE:((c.length+1:Nat):Int)=(c.length:Int)+1:=Ua;clear hrj hrj0 dcell fcell hk hg hd hf ra HK HG HBW dh ab hgne
   go_wp2_with fail
   refine Jo fun W2 gi=>?_;have sN:Hid (RJ w f gD gF ((Jdk c.length).map dOf) ((Jdk c.length).map (·.f)) W2):=by rw [gi];exact HRJ
   clear gi HRJ d0 q0
   go_loopw [11,12] (fun top i wr=>∃(k:Nat) (ps:List Pl) (dep:Int) (D F:List Int),k<=c.length/\i = .int .i64 k/\top = .int .i64 dep/\Hid (goJ f c.length k (c.drop k) ps dep=J)/\Hid (Jaa k c.length dep ps)/\Hid (Mir ps D F)/\Hid (k=c.length->(ps.getD c.length Pl.no).met=true)/\Hid (RJ w f gD gF D F wr)) (fun _ i _=>c.length-(intOf i).toNat)
   case atStart=>exact⟨0,Jdk c.length,0,_,_,Np,rfl,rfl,Nf (by rw [List.drop_zero];exact HJ.out.symm),Nf (Jaa.start _),Nf ⟨rfl,rfl⟩,Nf (fun h0=>by rw [<-h0];rfl),sN⟩
   case round=>
    obtain⟨k,ps,dep,D,F,hk,rfl,rfl,zg,aw,hmir,hlast,hrj⟩:=hrel;have ai:=aw.out.len;have hDl:D.length=c.length+1:=by rw [hmir.out.d,List.length_map,ai]
    have hFl:F.length=c.length+1:=by rw [hmir.out.f,List.length_map,ai]
    clear sN
    by_cases am:k<c.length
    ·have hx:c[k]?=some c[k]:=Ng am;have hd:c.drop k=c[k] :: c.drop (k+1):=No am;have hNN:=HN.out c[k] (Nj am);generalize c[k]=x at hx hd hNN;obtain⟨op,N⟩:=x;have vy:=zg.out;rw [hd,goJ] at vy
     by_cases h1:(Jct f k (op,N) ps dep).1≠0
     ·rw [if_pos h1] at vy;exact absurd (by have:=H0.out;rw [<-vy] at this;exact this) h1
     rw [if_neg h1] at vy;have h1':(Jct f k (op,N) ps dep).1=0:=Lw;have uC:=aw.out.one h1';obtain⟨o1,o2,o3,o4,o5,o6,o7,o8,o9,o10⟩:=Kcx hmir.out aw.out am h1';have hdk:=hrj.out.rd.get (k:=k) Ua;have hfk:=hrj.out.rf.get (k:=k) Ua;generalize (Jct f k (op,N) ps dep).2.1=ps2 at *;generalize (Jct f k (op,N) ps dep).2.2=dep2 at *;have hrange:=aw.out.get k;rw [<-o3,<-o4] at hrange;obtain⟨d0,lA⟩:∃d0,d0=D.getD k 0:=⟨_,rfl⟩;obtain⟨f0,zb⟩:∃f0,f0=F.getD k 0:=⟨_,rfl⟩;rw [<-lA] at o5 o6 o7 o9 hdk hrange;rw [<-zb] at o9 hfk hrange;have HF0:=Nf zb;obtain⟨b,off,rfl,aH,y0,y1⟩:=Kbm (HC.out.later hrj.out.bel) hx;dsimp only at y0 y1;have hz:=hrj.out.z;have sK:=Nf uC;have HGO:=Nf vy;have HLAST:=Nf o10;have HW9:=Nf o9;have HW8:=Nf o8;have hdep:=o7;clear zg aw hmir hlast hx hd vy h1 h1' uC o3 o4 o7 o8 o9 o10 lA zb
     go_upto_region 19 with fail
     have hj:=Ka5 (op:=op) (N:=N) o1;have hwN:wrap64 N=N:=by unfold I32 at hNN;unfold wrap64;omega
     have qT:Hid (RJi w f gD gF D F wr.heap.size op N (wr.alloc (.cells #[.int .i64 op,.int .i32 N] 59))):=Nf ⟨hrj.out.later (Jc (Nt) _),⟨Uq,Uq⟩,⟨Ua,Ua⟩⟩;have rj:=Jjp op;have bB:=Jj1 op;generalize hR:Xn op f=R at *;generalize aP:Ky op=tk at *;generalize hgv:Kan op=gv at *;have xC:=fun W=>Kcv op f W;have htakes:=fun W=>Kcm op W;have hgives:=fun W=>Kco op W;have aB:=fun W=>Kbg op N W o1;rw [hR] at xC;rw [aP] at htakes;rw [hgv] at hgives;unfold frV at xC
     have tr:(decide (0<=R)=true/\decide (R<=N)=false)\/(decide (0<=R)=false/\True):=by
      by_cases h0:0<=R
      ·exact .inl ⟨Mr,Uj⟩
      ·exact .inr ⟨Mr,trivial⟩
     have td:¬d0<0:=Ua;have t1:decide (d0-tk<0)=false:=Uj;have t2:decide (16<d0-tk+gv)=false:=Uj;have hkI:(k:Int)<(c.length:Int)+1:=Ua;have hkN:k<c.length+1:=Ua;clear hR aP hgv o1 hrj
     rcases tr with ⟨tr1,tr2⟩|⟨tr1,tr2⟩
     all_goals
      go_upto_region 27 with (first
       | (have hg:=mU;go_at_call 65;go_loud (refine(xC _).mono ?_;rintro r wb ⟨rfl,bG⟩;have lQ:=Nf (mU.out.later bG);have q0:=lQ.out.q.1;have q1:=lQ.out.q.2;have c0:=Ja (Jd (Jd (Jc (Nt) _) aA) bG) hdk))
       | (go_at_call 64;go_loud (refine(aB _).mono ?_;rintro r wa ⟨rfl,aA⟩;have mU:=Nf (qT.out.later aA);have q0:=mU.out.q.1;have k0:=mU.out.st.k.1;have k1:=mU.out.st.k.2.1;have k2:=mU.out.st.k.2.2.1;have k3:=mU.out.st.k.2.2.2.1;have k4:=mU.out.st.k.2.2.2.2)))
      clear k0 k1 k2 k3 k4;have aH:=Nu c0;have xE:=Nu q0
      go_quiet ((go_at_call 66;exact Calls.quiet_of_same (htakes _)))
      go_upto_region 28 with fail
      refine Jo fun W3 hW3=>?_;have qP:Hid (RJi w f gD gF D F wr.heap.size op N W3):=by rw [hW3];exact Nf (lQ.out.later (J8 (Nt) _))
      have q0':=qP.out.q.1;have q1':=qP.out.q.2;clear hW3 qT mU lQ q0 q1 c0 aA bG;have hways:=fun W=>Kcs op N k W Ua hNN (fun h=>(hj h).1);have htl:(Kar op N k).length<=2:=by unfold Kar;split;simp;split <;> simp
      generalize Kar op N k=tos at *
      go_upto_region 32 with (first
       | (go_at_call 67;refine(hgives _).mono ?_;rintro r wg ⟨rfl,rfl⟩)
       | (go_at_call 68;refine(hways _).mono ?_;rintro r W5 ⟨⟨bw,rfl,wD,sh,hnum⟩,da⟩))
      generalize hdn:d0-tk+gv=dn at *;have wK:=Nf (qP.out.later da);have HNU:=Nf hnum
      have aC:bw≠gD/\bw≠gF:=by
       have h1:=qP.out.st.z;exact Ua
      clear qP da hnum q0' q1' hways hgives htakes xC aB hdk hfk hdn t1 t2 tr1 tr2 wD;generalize pU:wr.heap.size=bi at *;clear pU
      go_wp2_with fail
      go_loopw [18] (fun i wr3=>∃j:Nat,j<=tos.length/\i = .int .i64 j/\wr3=W5) (fun i _=>tos.length-(intOf i).toNat)
      case atStart=>exact⟨0,Np,rfl,rfl⟩
      case round=>
       obtain⟨j,hj1,rfl,hwr⟩:=hrel;obtain rfl:W5=wr:=hwr.symm
       by_cases hlj:j<tos.length
       ·have ht:tos[j]?=some tos[j]:=Ng hlj;have sb:=HW8.out tos[j] (Nj hlj);generalize tos[j]=tt at ht sb;have ct:=Na W5 bw j (tt:Nat) (HNU.out j _ (by unfold Kaw;rw [List.getElem?_map,ht];rfl));clear ht;have tle:(tt:Int)<=(c.length:Int):=Ua
        go_wp2_with fail
        go_roundw
        case rel=>exact⟨j+1,Ua,Up,by first|trivial|rfl⟩
        case measure=>simp [intOf];omega
       ·obtain rfl:j=tos.length:=Ua
        go_wp2_with fail
        go_loopw [19] (fun i wr4=>∃(j:Nat) (D' F':List Int),j<=tos.length/\i = .int .i64 j/\Hid (goW dn (f0+1) ps2 (tos.drop j) D' F')/\Hid (D'.length=c.length+1/\F'.length=c.length+1/\F'.getD k 0=f0)/\Hid (RJi w f gD gF D' F' bi op N wr4)/\Hid (Kas wr4 bw (Kaw tos))) (fun i _=>tos.length-(intOf i).toNat)
        case atStart=>exact⟨0,D,F,Np,rfl,Nf (by rw [List.drop_zero];exact HW9.out),Nf ⟨hDl,hFl,HF0.out.symm⟩,wK,HNU⟩
        case round=>
         clear wK HNU;obtain⟨j,D',F',hj1,rfl,zg,kq,hi,cp⟩:=hrel
         by_cases hlj:j<tos.length
         ·have ht:tos[j]?=some tos[j]:=Ng hlj;have htd:tos.drop j=tos[j] :: tos.drop (j+1):=No hlj;have sb:=HW8.out tos[j] (Nj hlj);generalize tos[j]=tt at ht sb htd;have vy:=zg.out;rw [htd,goW] at vy;obtain⟨g1,g2,g3,g4⟩:=vy;obtain⟨l1,l2,l3⟩:=kq.out;have ct:=cp.out j (tt:Nat) (by unfold Kaw;rw [List.getElem?_map,ht];rfl);have cd0:=hi.out.st.rd.get (k:=tt) Ua;have cft:=hi.out.st.rf.get (k:=tt) Ua;have cfk:=hi.out.st.rf.get (k:=k) Ua;rw [l3] at cfk;have fz1:=hi.out.st.fd tt;have fz2:=hi.out.st.ff tt;have hzi:=hi.out.st.z;generalize hxx:D'.getD tt 0=x at *;generalize hyy:F'.getD tt 0=y at *
          have bF:F'.set tt y=F':=by
           rw [<-hyy,List.getD_eq_getElem?_getD,Ng g2];exact List.set_getElem_self g2
          have aS:tt≠k:=Ua;have HG4:=Nf g4;have HSM:=Nf bF;have tt1:(tt:Int)<(c.length:Int)+1:=Ua;have tt2:tt<c.length+1:=Ua;clear ht htd zg g4 bF l1 l2 l3 hxx hyy
          have tg:(decide (0<=x)=false/\True)\/(decide (0<=x)=true/\(x != dn)=false):=by
           rcases g3 with h|h
           ·exact .inl ⟨Uj,trivial⟩
           ·subst h
            by_cases h0:0<=x
            ·exact .inr ⟨Mr,Ul⟩
            ·exact .inl ⟨Mr,trivial⟩
          rcases tg with ⟨tg1,tg2⟩|⟨tg1,tg2⟩
          all_goals
           go_upto_region 44 with fail
           refine Jo fun W6 hW6=>?_;have HI6:Hid (RJi w f gD gF (D'.set tt dn) F' bi op N W6):=by rw [hW6];exact Nf (hi.out.setD tt dn)
           have HN6:Hid (Kas W6 bw (Kaw tos)):=by rw [hW6];exact Nf (cp.out.blk aC.1 _)
           have cft':=Na W6 gF tt y (by rw [hW6];exact(Qm _ _ _ _ _ _ Ua).trans cft)
           have cfk':=Na W6 gF k f0 (by rw [hW6];exact(Qm _ _ _ _ _ _ Ua).trans cfk)
           have fz2':=Nc W6 gF tt (by rw [hW6,World.frozen?_setCell];exact fz2)
           clear hW6 cft cfk cd0 fz1 fz2 hi cp tg1 tg2
           go_quiet (fail)
           by_cases rU:y<f0+1
           ·have mH:max y (f0+1)=f0+1:=Ua
            go_wp2_with fail
            go_roundw
            case rel=>
             have cg:=HG4.out;rw [mH] at cg;refine⟨j+1,_,_,Ua,Up,Nf cg,Nf ⟨by simpa using kq.out.1,by simpa using kq.out.2.1,?_⟩,Nf ((HI6.out.later (J8 (Nt) _)).setF tt (f0+1)),Nf ((HN6.out.later (J8 (Nt) _)).blk aC.2 _)⟩;rw [List.getD_eq_getElem?_getD,List.getElem?_set_ne aS,<-List.getD_eq_getElem?_getD];exact kq.out.2.2
            case measure=>simp [intOf];omega
           ·have mH:max y (f0+1)=y:=Ua
            go_wp2_with fail
            go_roundw
            case rel=>
             have cg:=HG4.out;rw [mH,HSM.out] at cg;exact⟨j+1,_,_,Ua,Up,Nf cg,Nf ⟨by simpa using kq.out.1,kq.out.2.1,kq.out.2.2⟩,Nf (HI6.out.later (J8 (Nt) _)),Nf (HN6.out.later (J8 (Nt) _))⟩
            case measure=>simp [intOf];omega
         ·obtain rfl:j=tos.length:=Ua;have cI:=zg.out;rw [Nn,goW] at cI;have kj:=Nf cI;clear cI zg
          by_cases htop:dep<dn
          ·obtain rfl:dep2=dn:=Ua;exact Uf6
          ·obtain rfl:dep2=dep:=Ua;exact Uf6
    ·obtain rfl:k=c.length:=Ua;have vy:=zg.out;rw [Nn,goJ] at vy;have hx:ps[c.length]?=some ps[c.length]:=Ng Ua;have tX:=hlast.out rfl;have oL:ps.getD c.length Pl.no=ps[c.length]:=by rw [List.getD_eq_getElem?_getD,hx];rfl
     have jK:=hrj.out.rd.get (k:=c.length) Ua;have hcf:=hrj.out.rf.get (k:=c.length) Ua;rw [show D.getD c.length 0=dOf ps[c.length] by rw [hmir.out.d];exact Kay hx] at jK;rw [show F.getD c.length 0=ps[c.length].f by rw [hmir.out.f];exact Kay (g:=(·.f)) hx] at hcf;rw [oL] at vy tX;generalize ps[c.length]=pe at *;rw [show dOf pe=pe.d by unfold dOf;rw [if_pos tX]] at jK
     by_cases eD:pe.d≠0
     ·rw [if_pos eD] at vy;exact absurd (by have:=H0.out;rw [<-vy] at this;exact this) (show ¬(12:Int)=0 by decide)
     rw [if_neg eD] at vy;have hde0:pe.d=0:=G8;rw [hde0] at jK;have hJ1:J.1.1=dep/\J.1.2=pe.f:=by rw [<-vy];exact⟨rfl,rfl⟩
     have r0:=hrj.out.r.1;have r1:=hrj.out.r.2.1;have r2:=hrj.out.r.2.2.1;have r3:=hrj.out.r.2.2.2;have ab:=hrj.out.bel;have hcI:(c.length:Int)<(c.length:Int)+1:=Ua;have HJ1:=Nf hJ1;clear zg vy hJ1 aw hmir hlast hrj hx oL eD hde0 tX;generalize pe.f=fe at *
     go_wp2_with fail
     refine Nv (v:= .tuple #[.agg #[.int .i64 dep,.int .i64 fe],.int .i64 0,.int .i64 0]) (by simp [results,Tryz.results38,go_sem, *]) rfl ⟨by rw [HJ1.out.1,HJ1.out.2],?_⟩;exact Below.setCell (Below.setCell ab (show w.heap.size<=w.heap.size+1 by omega) _) (show w.heap.size<=w.heap.size+1 by omega) _
end Go.Proofs.YtknfcamdfdfoeaaGreatDoor
