/- Lemmas. -/
import Derived.Test.YtdgjplldlfeolaaGreatDoorMac
import Derived.Test.YtdgjplldlfeolaaGreatDoorY15
import Derived.Deep.RegionLaw
import Derived.Test.YtdgjplldlfeolaaGreatDoorY12
import Derived.Deep.CutRange
set_option linter.unusedVariables false
set_option linter.unusedSimpArgs false
set_option maxRecDepth 100000
set_option maxHeartbeats 64000000
namespace Go.Proofs.YtdgjplldlfeolaaGreatDoor
open Go.RowKit Go.Sort
structure Zv (W:World) (B:Nat) (ps:List Pl):Prop where
 cell:∀(k:Nat) (p:Pl),ps[k]?=some p->W.cell? ⟨B,k * 3,none⟩=some (.bool p.met)/\W.cell? ⟨B,k * 3+1,none⟩=some (.int .i64 p.d)/\W.cell? ⟨B,k * 3+2,none⟩=some (.int .i64 p.f)
 fz:∀o,W.frozen? ⟨B,o,none⟩=false
theorem Zv.set {W W2:World} {B tg:Nat} {ps:List Pl} {p:Pl} (h:Zv W B ps) (ho:∀o,(o<tg * 3\/tg * 3+3<=o)->W2.cell? ⟨B,o,none⟩=W.cell? ⟨B,o,none⟩)
  (h0:W2.cell? ⟨B,tg * 3,none⟩=some (.bool p.met)) (h1:W2.cell? ⟨B,tg * 3+1,none⟩=some (.int .i64 p.d)) (h2:W2.cell? ⟨B,tg * 3+2,none⟩=some (.int .i64 p.f)) (hf:∀o,W2.frozen? ⟨B,o,none⟩=W.frozen? ⟨B,o,none⟩):Zv W2 B (ps.set tg p):=by
 refine⟨fun k q hk=>?_,fun o=>(hf o).trans (h.fz o)⟩;rw [List.getElem?_set] at hk
 by_cases hj:tg=k
 ·subst hj;rw [if_pos rfl] at hk
  split at hk
  ·injection hk with hk;subst hk;exact⟨h0,h1,h2⟩
  ·cases hk
 ·rw [if_neg hj] at hk;obtain⟨a1,a2,a3⟩:=h.cell k q hk;exact⟨(ho _ Ua).trans a1,(ho _ Ua).trans a2,(ho _ Ua).trans a3⟩
theorem Zv.later {W W2:World} {B:Nat} {ps:List Pl} (h:Zv W B ps) (hB:B<W.heap.size) (hb:Below W.heap.size W W2):Zv W2 B ps:=
 ⟨fun k p hk=>by obtain⟨a1,a2,a3⟩:=h.cell k p hk;exact⟨Ja hb a1,Ja hb a2,Ja hb a3⟩,fun o=>(Jf hb B o hB).trans (h.fz o)⟩
theorem Zv.store1 {W:World} {B tg:Nat} {ps:List Pl} {q:Pl} (h:Zv W B ps) (hx:ps[tg]?=some q) (f:Int):Zv (W.setCell ⟨B,tg * 3+2,none⟩ (.int .i64 f)) B (ps.set tg ⟨q.met,q.d,f⟩):=by
 obtain⟨c0,c1,c2⟩:=h.cell tg q hx;have ne:∀o,o≠tg * 3+2->(W.setCell ⟨B,tg * 3+2,none⟩ (.int .i64 f)).cell? ⟨B,o,none⟩=W.cell? ⟨B,o,none⟩:=fun o ho=>World.cell?_setCell_other _ _ _ _ Vz;exact h.set (fun o ho=>ne o Ua) ((ne _ Ua).trans c0) ((ne _ Ua).trans c1) (Nx _ _ _ c2) (fun o=>World.frozen?_setCell ..)
theorem Zv.store3 {W:World} {B tg:Nat} {ps:List Pl} {q:Pl} (h:Zv W B ps) (hx:ps[tg]?=some q) (m:Bool) (d f:Int):Zv (((W.setCell ⟨B,tg * 3,none⟩ (.bool m)).setCell ⟨B,tg * 3+1,none⟩ (.int .i64 d)).setCell ⟨B,tg * 3+2,none⟩ (.int .i64 f)) B (ps.set tg ⟨m,d,f⟩):=by
 obtain⟨c0,c1,c2⟩:=h.cell tg q hx;have ne:∀(W:World) (j:Nat) (u:Value) (o:Nat),o≠j->(W.setCell ⟨B,j,none⟩ u).cell? ⟨B,o,none⟩=W.cell? ⟨B,o,none⟩:=fun W j u o ho=>World.cell?_setCell_other _ _ _ _ Vz;refine h.set (fun o ho=>?_) ?_ ?_ ?_ (fun o=>?_)
 ·rw [ne _ _ _ _ Ua,ne _ _ _ _ Ua,ne _ _ _ _ Ua]
 ·rw [ne _ _ _ _ Ua,ne _ _ _ _ Ua];exact Nx _ _ _ c0
 ·rw [ne _ _ _ _ Ua];exact Nx _ _ _ ((ne _ _ _ _ Ua).trans c1)
 ·exact Nx _ _ _ (((ne _ _ _ _ Ua).trans (ne _ _ _ _ Ua)).trans c2)
 ·rw [World.frozen?_setCell,World.frozen?_setCell,World.frozen?_setCell]
theorem Jrl (a:Bool) (b c:Int) (w:World):(Op.equalIn 10000 133 (.agg #[.bool a,.int .i64 b,.int .i64 c]) (.agg #[.bool false,.int .i64 0,.int .i64 0])).run Tryz.prog w = .ok (!a && b == 0 && c == 0) w:=by
 have hS:Tryz.prog.underlying 133=some (.struct (Tryz.prog.fieldsOf 133)):=Ue;have hp:Tryz.prog.stoodInHeld 133=false:=Ue;rw [show(10000:Nat)=9999+1 from rfl,run_equalIn_agg w 9999 133 _ _ hS hp];simp only [Program.fieldsOf,Tryz.underlying133];go_simp
 cases a <;> by_cases h2:b=0 <;> by_cases h3:c=0 <;> simp [h2,h3]
theorem Jws (X B:Nat) (ps:List Pl) (tg:Nat) (d f:Int) (W:World) (jt:X≠B) (hc:W.cell? ⟨X,0,none⟩=some (.slice (some ⟨B,0,none⟩) ps.length ps.length)) (hp:Zv W B ps) (hB:B<W.heap.size) (wR:tg<ps.length) (ai:ps.length<=601)
  (gG:∀p,ps[tg]?=some p->p.met=false->p.d=0/\p.f=0) :
  Calls Tryz.prog 97 #[.pointer (some ⟨X,0,none⟩),.int .i64 tg,.int .i64 d,.int .i64 f] W fun r w'=>r = .returned (.bool (Ja5 ps tg d f).isSome)/\Zv w' B ((Ja5 ps tg d f).getD ps)/\J6 (fun k=>k=B) W w':=by
 have hx:ps[tg]?=some ps[tg]:=Ng wR;generalize ps[tg]=p at hx;have hu:=gG p hx;obtain⟨c0,c1,c2⟩:=hp.cell tg p hx;have hfz0:=hp.fz (tg * 3);have tH:=hp.fz (tg * 3+1);have hfz2:=hp.fz (tg * 3+2);have pO:=Nu hc;have fM:Tryz.prog.eqGuardType Tryz.prog.depth 133=false:=Ue;have hti:(tg:Int)<(ps.length:Int):=Ua;obtain⟨R,hR⟩:∃R,R=Ja5 ps tg d f:=⟨_,rfl⟩;rw [<-hR];unfold Ja5 at hR;rw [hx] at hR;dsimp only at hR;have HP:=Nf hp;have HX:=Nf hx;clear hp gG hx;obtain⟨pm,pd,pf⟩:=p;dsimp only at *
 cases pm
 ·obtain⟨rfl,rfl⟩:=hu rfl;rw [if_neg Ug] at hR;have HR:=Nf hR;have dp:=fun w=>Jrl false 0 0 w;clear hR hu
  go_enter Tryz.func97,Tryz.ntmps97
  go_wp2_with fail
  go_ret;rw [HR.out];exact⟨rfl,(HP.out.store3 HX.out true d f).later (by simp;exact hB) (Jc (Nt) _),((((J6.refl (S:=fun k=>k=B) W).setCell rfl _ _).setCell rfl _ _).setCell rfl _ _).trans' (J6.bel (Jc (Nt) _))⟩
 ·rw [if_pos rfl] at hR;have dp:=fun w=>Jrl true pd pf w;simp only [Bool.not_true,Bool.false_and] at dp;clear hu
  by_cases hd:pd=d
  ·rw [if_pos hd] at hR;obtain rfl:=hd;have tq:(pd != pd)=false:=Uh
   by_cases hpf:pf<f
   ·have hm:max pf f=f:=Ua;rw [hm] at hR;have HR:=Nf hR;clear hR hm
    go_enter Tryz.func97,Tryz.ntmps97
    go_wp2_with fail
    go_region_law (fail)
    all_goals
     go_wp2_with fail
     go_ret;rw [HR.out];exact⟨rfl,(HP.out.store1 HX.out f).later (by simp;exact hB) (Jh (Jc (Nt) _)),((J6.refl (S:=fun k=>k=B) W).setCell rfl _ _).trans' (J6.bel (Jh (Jc (Nt) _)))⟩
   ·have hm:max pf f=pf:=Ua;rw [hm] at hR;have HR:=Nf hR;clear hR hm
    go_enter Tryz.func97,Tryz.ntmps97
    go_wp2_with fail
    go_region_law (fail)
    all_goals
     go_wp2_with fail
     go_ret;rw [HR.out];exact⟨rfl,(HP.out.store1 HX.out pf).later (by simp;exact hB) (Jh (Jc (Nt) _)),((J6.refl (S:=fun k=>k=B) W).setCell rfl _ _).trans' (J6.bel (Jh (Jc (Nt) _)))⟩
  ·rw [if_neg hd] at hR;have tq:(pd != d)=true:=G2;have HR:=Nf hR;clear hR
   go_enter Tryz.func97,Tryz.ntmps97
   go_wp2_with fail
   go_ret;rw [HR.out];exact⟨rfl,HP.out.later hB Jb,J6.bel Jb⟩
def Jhi (X B:Nat) (res:Int×List Pl×Int) (W:World) (r:Ending) (w':World):Prop:=
 r = .returned (.int .i64 res.1)/\(res.1=0->Zv w' B res.2.1/\w'.cell? ⟨X,1,none⟩=some (.int .i64 res.2.2))/\J6 (fun b=>b=B\/b=X) W w'/\
 w'.cell? ⟨X,0,none⟩=W.cell? ⟨X,0,none⟩/\w'.cell? ⟨X,2,none⟩=W.cell? ⟨X,2,none⟩/\∀o,w'.frozen? ⟨X,o,none⟩=W.frozen? ⟨X,o,none⟩
theorem Jrn {ps:List Pl} {k:Nat} {p:Pl} (h:ps[k]?=some p):ps.getD k Pl.no=p:=by
 rw [List.getD_eq_getElem?_getD,h];rfl
structure Jl4 (X B:Nat) (W V:World) (m:Int):Prop where
 k:J6 (fun b=>b=B\/b=X) W V
 x0:V.cell? ⟨X,0,none⟩=W.cell? ⟨X,0,none⟩
 x1:V.cell? ⟨X,1,none⟩=some (.int .i64 m)
 x2:V.cell? ⟨X,2,none⟩=W.cell? ⟨X,2,none⟩
 fz:∀o,V.frozen? ⟨X,o,none⟩=W.frozen? ⟨X,o,none⟩
theorem Jea {W V:World} {b:Nat} (h:V.heap[b]?=W.heap[b]?) (o:Nat):V.cell? ⟨b,o,none⟩=W.cell? ⟨b,o,none⟩:=World.cell?_of_block (a:=⟨b,o,none⟩) h
theorem Jl4.step {X B:Nat} {W V V':World} {m:Int} (h:Jl4 X B W V m) (hX:X<V.heap.size) (jt:X≠B) (hk:J6 (fun b=>b=B) V V'):Jl4 X B W V' m:=by
 have hb:=hk.block X hX jt;exact⟨h.k.trans hk fun b _ hb=> .inl hb,(Jea hb 0).trans h.x0,(Jea hb 1).trans h.x1,(Jea hb 2).trans h.x2,fun o=>(World.frozen?_of_block (a:=⟨X,o,none⟩) hb).trans (h.fz o)⟩
theorem Jl4.done {X B:Nat} {res:Int×List Pl×Int} {W w':World} {m:Int} {r:Ending} (h:Jl4 X B W w' m) (hr:r = .returned (.int .i64 res.1)) (hp:res.1=0->Zv w' B res.2.1/\res.2.2=m):Jhi X B res W r w':=
 ⟨hr,fun h0=>⟨(hp h0).1,by rw [(hp h0).2];exact h.x1⟩,h.k,h.x0,h.x2,h.fz⟩
theorem Zv.blk {W:World} {X B o:Nat} {ps:List Pl} (h:Zv W B ps) (hX:X≠B) (u:Value):Zv (W.setCell ⟨X,o,none⟩ u) B ps:=
 ⟨fun k p hk=>by obtain⟨a,b,c⟩:=h.cell k p hk;exact⟨(Qm _ _ _ _ _ _ (Ne.symm hX)).trans a,(Qm _ _ _ _ _ _ (Ne.symm hX)).trans b,(Qm _ _ _ _ _ _ (Ne.symm hX)).trans c⟩,fun o=>(World.frozen?_setCell ..).trans (h.fz o)⟩
theorem Jv1 {ps ps':List Pl} {j:Nat} {d f:Int} (h:Ja5 ps j d f=some ps'):ps'.length=ps.length:=by
 unfold Ja5 at h
 cases hx:ps[j]? with
 | none=>rw [hx] at h;cases h
 | some p=>
  rw [hx] at h;dsimp only at h
  split at h
  ·split at h
   ·injection h with h;rw [<-h,List.length_set]
   ·cases h
  ·injection h with h;rw [<-h,List.length_set]
theorem Jpw {op N:Int} (h:Qj (op,N)=0) (ho:op=10\/op=11):0<=N/\N<=65535:=by
 have hw:Qp op=2:=by unfold Qp;rw [if_neg Ua,if_pos Ua]
 unfold Qj at h;dsimp only at h;rw [hw,if_neg Ug,if_neg Ug,if_neg Ua,if_neg Ua] at h
 by_cases h2:N<0\/65535<N
 ·rw [if_pos ⟨rfl,h2⟩] at h;exact absurd h Ug
 ·exact Ua
theorem Jhi.bel {X B:Nat} {res:Int×List Pl×Int} {W:World} {r:Ending} {w':World} (hr:r = .returned (.int .i64 res.1)) (h0:res.1≠0) (hX:X<W.heap.size) (hb:Below W.heap.size W w'):Jhi X B res W r w':=
 ⟨hr,fun h=>absurd h h0,J6.bel hb,Jg hb _ _ hX,Jg hb _ _ hX,fun o=>Jf hb X o hX⟩
structure AtZ (V:World) (g:Nat) (u0 u1 u2:Value):Prop where
 c0:V.cell? ⟨g,0,none⟩=some u0
 c1:V.cell? ⟨g,1,none⟩=some u1
 c2:V.cell? ⟨g,2,none⟩=some u2
 f0:V.frozen? ⟨g,0,none⟩=false
 f1:V.frozen? ⟨g,1,none⟩=false
 f2:V.frozen? ⟨g,2,none⟩=false
theorem AtZ.lt {V:World} {g:Nat} {u0 u1 u2:Value} (h:AtZ V g u0 u1 u2):g<V.heap.size:=Nu h.c0
theorem AtZ.later {V V':World} {g:Nat} {u0 u1 u2:Value} (h:AtZ V g u0 u1 u2) (hb:Below V.heap.size V V'):AtZ V' g u0 u1 u2:=
 ⟨Ja hb h.c0,Ja hb h.c1,Ja hb h.c2,(Jf hb _ _ h.lt).trans h.f0,(Jf hb _ _ h.lt).trans h.f1,(Jf hb _ _ h.lt).trans h.f2⟩
theorem AtZ.new (V:World) (u0 u1 u2:Value) (t:TypeId):AtZ (V.alloc (.cells #[u0,u1,u2] t)) V.heap.size u0 u1 u2:=⟨Uc,Uc,Uc,Uc,Uc,Uc⟩
theorem AtZ.set {V:World} {g:Nat} {u0 u1 u2:Value} (h:AtZ V g u0 u1 u2) (v0 v1 v2:Value):AtZ (((V.setCell ⟨g,0,none⟩ v0).setCell ⟨g,1,none⟩ v1).setCell ⟨g,2,none⟩ v2) g v0 v1 v2:=by
 obtain⟨a,b,c⟩:=Jp5 v0 v1 v2 h.c0 h.c1 h.c2;exact⟨a,b,c,(Jev _ _ _ _).trans h.f0,(Jev _ _ _ _).trans h.f1,(Jev _ _ _ _).trans h.f2⟩
theorem AtZ.other {V:World} {g k:Nat} {u0 u1 u2:Value} (h:AtZ V g u0 u1 u2) (v0 v1 v2:Value) (hk:g≠k):AtZ (((V.setCell ⟨k,0,none⟩ v0).setCell ⟨k,1,none⟩ v1).setCell ⟨k,2,none⟩ v2) g u0 u1 u2:=
 ⟨(Qy _ _ _ hk).trans h.c0,(Qy _ _ _ hk).trans h.c1,(Qy _ _ _ hk).trans h.c2,(Jev _ _ _ _).trans h.f0,(Jev _ _ _ _).trans h.f1,(Jev _ _ _ _).trans h.f2⟩
theorem AtZ.othr {V:World} {g k:Nat} {u0 u1 u2 x0 x1 x2:Value} (h:AtZ V g u0 u1 u2) (_:AtZ V k x0 x1 x2) (v0 v1 v2:Value) (hk:g≠k):AtZ (((V.setCell ⟨k,0,none⟩ v0).setCell ⟨k,1,none⟩ v1).setCell ⟨k,2,none⟩ v2) g u0 u1 u2:=h.other v0 v1 v2 hk
def Kai (W:World) (op N:Int) (f:Fr) (p:Pl) (x q:Value) (wx:World):Prop:=
 ∃gx gp,x = .pointer (some ⟨gx,0,none⟩)/\q = .pointer (some ⟨gp,0,none⟩)/\W.heap.size+2<=gx/\W.heap.size+2<=gp/\gx<wx.heap.size/\gp<wx.heap.size/\
  wx.cell? ⟨gx,0,none⟩=some (.int .i64 (Ky op))/\wx.cell? ⟨gx,1,none⟩=some (.int .i64 (Kan op))/\wx.cell? ⟨gx,2,none⟩=some (.int .i64 (Xn op f))/\
  wx.cell? ⟨gp,0,none⟩=some (.bool p.met)/\wx.cell? ⟨gp,1,none⟩=some (.int .i64 p.d)/\wx.cell? ⟨gp,2,none⟩=some (.int .i64 p.f)/\
  wx.cell? ⟨W.heap.size,0,none⟩=some (.int .i64 op)/\wx.cell? ⟨W.heap.size,1,none⟩=some (.int .i32 N)/\Below W.heap.size W wx
theorem Jp0 (X B:Nat) (ps:List Pl) (dep:Int) (at_ n:Nat) (op N:Int) (f:Fr) (W:World) (jt:X≠B) (c0:W.cell? ⟨X,0,none⟩=some (.slice (some ⟨B,0,none⟩) ps.length ps.length)) (c1:W.cell? ⟨X,1,none⟩=some (.int .i64 dep)) (fX:W.frozen? ⟨X,1,none⟩=false)
  (hp:Zv W B ps) (hB:B<W.heap.size) (aw:Jaa at_ n dep ps) (aY:at_<n) (hn:n<=600) (hN:I32 N) :
  Calls Tryz.prog 57 #[.pointer (some ⟨X,0,none⟩),.agg #[.int .i64 op,.int .i32 N],.int .i64 at_,frV f] W (Jhi X B (Jct f at_ (op,N) ps dep) W):=by
 have pO:=Nu c0;obtain⟨R,hR⟩:∃R,R=Jct f at_ (op,N) ps dep:=⟨_,rfl⟩;rw [<-hR];unfold Jct at hR;have aB:=fun w=>Jlr op N w;unfold Jby at aB
 by_cases hr:Qj (op,N)≠0
 ·rw [if_pos hr] at hR;have tq:(Qj (op,N) != 0)=true:=Fp;have hR1:R.1=Qj (op,N):=by rw [hR]
  have HR:=Nf hR1;have HRR:=Nf hr;clear hR hr hR1 aw hp;generalize Qj (op,N)=e at *;unfold frV
  go_enter Tryz.func57,Tryz.ntmps57
  go_wp2_with (first|(go_at_call 95;refine mo (aB _) fun w1 ac ak af bV=>?_;(try simp at af)))
  go_ret;exact Jhi.bel (Jm HR.out.symm) (by rw [HR.out];exact HRR.out) pO Jb
 rw [if_neg hr] at hR;have eV:Qj (op,N)=0:=Fp;rw [eV] at aB;have HRT:=Nf eV;clear hr eV;have ai:=aw.len;have am:at_<ps.length:=Ua;have hx:ps[at_]?=some ps[at_]:=Ng am;generalize ps[at_]=p at hx;obtain⟨b0,b1,b2⟩:=hp.cell at_ p hx;have hpd:=aw.all at_ p hx;rw [Jrn hx] at hR;have nN:=fun w=>Jsq op f w;have hti:(at_:Int)<(ps.length:Int):=Ua;have pP:ps.length<=601:=Ua;have eO:=Nf ai;have HP:=Nf hp;have kc:=Nf aw;have HR:=Nf hR;clear hp aw hR hx ai;unfold frV at *
 go_enter Tryz.func57,Tryz.ntmps57
 go_upto_region 4 with (first|(go_at_call 95;refine mo (aB _) fun w1 ac ak af bV=>?_;(try simp at af)))
 refine Jo fun W1 bt=>?_;have eM:=Nd W W1 Fz;have q0:=Na W1 W.heap.size 0 op Ucf;have q1:=Nb W1 W.heap.size 1 (.int .i32 N) Ucf;have k0:=Na W1 (W.heap.size+1) 0 f.s Ucf;have k1:=Na W1 (W.heap.size+1) 1 f.o Ucf;have k2:=Na W1 (W.heap.size+1) 2 f.n Ucf;have k3:=Na W1 (W.heap.size+1) 3 f.i Ucf;have k4:=Na W1 (W.heap.size+1) 4 f.u Ucf;have x0:=Ja eM c0;have y0:=Ja eM b0;have y1:=Ja eM b1;have y2:=Ja eM b2;have su:=Nu k0;have hyB:=Nu y0;have hyX:=Nu x0;have hyW:=Nu q0;clear bt aB
 go_cut [10,11] from 19 to 29 (fun x q wx=>Kai W op N f p x q wx)
 case first=>
  have hS:∀w',Below W1.heap.size W1 w'->w'.cell? ⟨X,0,none⟩=some (.slice (some ⟨B,0,none⟩) ps.length ps.length)/\w'.cell? ⟨B,at_ * 3,none⟩=some (.bool p.met)/\w'.cell? ⟨B,at_ * 3+1,none⟩=some (.int .i64 p.d)/\w'.cell? ⟨B,at_ * 3+2,none⟩=some (.int .i64 p.f)/\w'.cell? ⟨W.heap.size,0,none⟩=some (.int .i64 op)/\w'.cell? ⟨W.heap.size+1,0,none⟩=some (.int .i64 f.s)/\w'.cell? ⟨W.heap.size+1,1,none⟩=some (.int .i64 f.o)/\w'.cell? ⟨W.heap.size+1,2,none⟩=some (.int .i64 f.n)/\w'.cell? ⟨W.heap.size+1,3,none⟩=some (.int .i64 f.i)/\w'.cell? ⟨W.heap.size+1,4,none⟩=some (.int .i64 f.u):=fun w' hb=>⟨Ja hb x0,Ja hb y0,Ja hb y1,Ja hb y2,Ja hb q0,Ja hb k0,Ja hb k1,Ja hb k2,Ja hb k3,Ja hb k4⟩;have HS:=Nf hS;have ar:=hS W1.drew (Jh (Nt));have Q0:=Nf q0;have Q1:=Nf q1;clear hS x0 y0 y1 y2 q0 q1 k0 k1 k2 k3 k4;refine Kd (fun w'=>w'.cell? ⟨X,0,none⟩=some (.slice (some ⟨B,0,none⟩) ps.length ps.length)/\w'.cell? ⟨B,at_ * 3,none⟩=some (.bool p.met)/\w'.cell? ⟨B,at_ * 3+1,none⟩=some (.int .i64 p.d)/\w'.cell? ⟨B,at_ * 3+2,none⟩=some (.int .i64 p.f)/\w'.cell? ⟨W.heap.size,0,none⟩=some (.int .i64 op)/\w'.cell? ⟨W.heap.size+1,0,none⟩=some (.int .i64 f.s)/\w'.cell? ⟨W.heap.size+1,1,none⟩=some (.int .i64 f.o)/\w'.cell? ⟨W.heap.size+1,2,none⟩=some (.int .i64 f.n)/\w'.cell? ⟨W.heap.size+1,3,none⟩=some (.int .i64 f.i)/\w'.cell? ⟨W.heap.size+1,4,none⟩=some (.int .i64 f.u)) 14 1 Ue Gp ?_;simp only [List.size_toArray,Nl,Nm,Nat.zero_add,Nat.reduceAdd];refine Ji 0 ar ?_;refine Ji 1 ar ?_;refine Ji 2 ar ?_;refine Ji 4 ar ?_;refine Ji 5 ar ?_;refine Ji 6 ar ?_;refine Ji 7 ar ?_;refine Ji 8 ar ?_;refine Ji 9 ar ?_;refine Ji 10 ar ?_;refine Ys fun V0 sM=>?_;have bV0:=Nd W1 V0 (by rw [sM];exact Jh (Nt))
  clear ar sM;refine Jrr (i:=3) (j:=11) (l:=12) Ue Ul Ul Ul rfl rfl rfl ?_ ?_ ?_
  ·refine Jj fun K hK=>?_;go_simp;refine(nN _).mono ?_;rintro r V1 ⟨rfl,ef⟩;dsimp only;have bV1:=Nd W1 V1 (Jd bV0 ef);refine hK _ _ ⟨HS.out _ bV1,?_⟩;clear hK K
   try simp only [Act.put,sa1,sa2,sa3]
   (try replace bQ:=bQ.later ef)
   (try replace bR:=bR.later ef)
   refine Jfe (i:=11) (j:=12) Ue Ul Ul rfl rfl ?_ ?_
   ·refine Jj fun K hK=>?_;go_simp;refine hK _ _ ⟨HS.out _ (Jc bV1 _),?_⟩;clear hK K
    try simp only [Act.put,sa1,sa2,sa3]
    refine Ys fun V2 hV=>?_;have bV2:=Nd W1 V2 D0;have bQ:AtZ V2 V1.heap.size (.int .i64 0) (.int .i64 0) (.int .i64 0):=Vp
    (try have aS:=bR.lt)
    (try replace bR:=bR.later (show Below _ _ V2 by rw [hV];exact Jc (Nt) _))
    have gK:W1.heap.size<=V1.heap.size:=bV1.size;clear hV;refine Kb 12 ?_;refine Jj fun K hK=>?_;go_simp;refine hK _ _ ⟨HS.out _ (Jc bV2 _),?_⟩;clear hK K
    try simp only [Act.put,sa1,sa2,sa3]
    refine Ys fun V3 hV=>?_;have bV3:=Nd W1 V3 D5;have bR:AtZ V3 V2.heap.size (.bool false) (.int .i64 0) (.int .i64 0):=Vp
    (try have aS:=bQ.lt)
    (try replace bQ:=bQ.later (show Below _ _ V3 by rw [hV];exact Jc (Nt) _))
    have qV:W1.heap.size<=V2.heap.size:=bV2.size;clear hV;refine Kb 13 ?_;obtain⟨xc0,xc1,xc2,xf0,xf1,xf2⟩:=id bQ;refine Jj fun K hK=>?_;go_simp;refine hK _ _ ⟨HS.out _ (Qq _ _ _ bV3 gK),?_⟩;clear xc0 xc1 xc2 xf0 xf1 xf2;clear hK K
    try simp only [Act.put,sa1,sa2,sa3]
    refine Ys fun V4 hV=>?_;have bV4:=Nd W1 V4 Fe;have pQ:=bQ.lt
    (try have pR:=bR.lt)
    (try (have ec:=bR.othr bQ (.int .i64 (Ky op)) (.int .i64 (Kan op)) (.int .i64 (Xn op f)) Ua;rw [<-hV] at ec;clear bR;have bR:=ec;clear ec))
    have bW:=bQ.set (.int .i64 (Ky op)) (.int .i64 (Kan op)) (.int .i64 (Xn op f));rw [<-hV] at bW;clear bQ;have bQ:=bW;clear bW;clear hV;refine Kh Ue ?_;obtain⟨pc0,pc1,pc2,pf0,pf1,pf2⟩:=id bR;refine Qx 14 ?_;refine Jj fun K hK=>?_;go_simp;refine hK _ _ ?_;clear hK K
    try simp only [Act.put,sa1,sa2,sa3]
    refine Ki Ue ?_;refine Zc fun V5 gy=>?_;have bV5:=Nd W1 V5 Fd;have pQ:=bQ.lt;have pR:=bR.lt;have io:=bQ.othr bR (.bool p.met) (.int .i64 p.d) (.int .i64 p.f) Ua;have iO:=bR.set (.bool p.met) (.int .i64 p.d) (.int .i64 p.f);rw [<-gy] at io iO;have dd:=Nf io;have df:=Nf iO;clear gy bQ bR io iO pc0 pc1 pc2 pf0 pf1 pf2
    go_wp2_with fail
    go_meet
    case rel=>exact⟨_,_,rfl,rfl,Ua,Ua,dd.out.lt,df.out.lt,dd.out.c0,dd.out.c1,dd.out.c2,df.out.c0,df.out.c1,df.out.c2,Ja bV5 Q0.out,Ja bV5 Q1.out,Jd eM bV5⟩
   ·refine Jj fun K hK=>?_;go_simp;refine hK _ _ ⟨HS.out _ (Jc bV1 _),?_⟩;clear hK K
    try simp only [Act.put,sa1,sa2,sa3]
    refine Ys fun V2 hV=>?_;have bV2:=Nd W1 V2 D0;have bR:AtZ V2 V1.heap.size (.bool false) (.int .i64 0) (.int .i64 0):=Vp
    (try have aS:=bQ.lt)
    (try replace bQ:=bQ.later (show Below _ _ V2 by rw [hV];exact Jc (Nt) _))
    have qV:W1.heap.size<=V1.heap.size:=bV1.size;clear hV;refine Kb 11 ?_;refine Jj fun K hK=>?_;go_simp;refine hK _ _ ⟨HS.out _ (Jc bV2 _),?_⟩;clear hK K
    try simp only [Act.put,sa1,sa2,sa3]
    refine Ys fun V3 hV=>?_;have bV3:=Nd W1 V3 D5;have bQ:AtZ V3 V2.heap.size (.int .i64 0) (.int .i64 0) (.int .i64 0):=Vp
    (try have aS:=bR.lt)
    (try replace bR:=bR.later (show Below _ _ V3 by rw [hV];exact Jc (Nt) _))
    have gK:W1.heap.size<=V2.heap.size:=bV2.size;clear hV;refine Kb 13 ?_;obtain⟨xc0,xc1,xc2,xf0,xf1,xf2⟩:=id bQ;refine Jj fun K hK=>?_;go_simp;refine hK _ _ ⟨HS.out _ (Qq _ _ _ bV3 gK),?_⟩;clear xc0 xc1 xc2 xf0 xf1 xf2;clear hK K
    try simp only [Act.put,sa1,sa2,sa3]
    refine Ys fun V4 hV=>?_;have bV4:=Nd W1 V4 Fe;have pQ:=bQ.lt
    (try have pR:=bR.lt)
    (try (have ec:=bR.othr bQ (.int .i64 (Ky op)) (.int .i64 (Kan op)) (.int .i64 (Xn op f)) Ua;rw [<-hV] at ec;clear bR;have bR:=ec;clear ec))
    have bW:=bQ.set (.int .i64 (Ky op)) (.int .i64 (Kan op)) (.int .i64 (Xn op f));rw [<-hV] at bW;clear bQ;have bQ:=bW;clear bW;clear hV;refine Kh Ue ?_;obtain⟨pc0,pc1,pc2,pf0,pf1,pf2⟩:=id bR;refine Qx 14 ?_;refine Jj fun K hK=>?_;go_simp;refine hK _ _ ?_;clear hK K
    try simp only [Act.put,sa1,sa2,sa3]
    refine Ki Ue ?_;refine Zc fun V5 gy=>?_;have bV5:=Nd W1 V5 Fd;have pQ:=bQ.lt;have pR:=bR.lt;have io:=bQ.othr bR (.bool p.met) (.int .i64 p.d) (.int .i64 p.f) Ua;have iO:=bR.set (.bool p.met) (.int .i64 p.d) (.int .i64 p.f);rw [<-gy] at io iO;have dd:=Nf io;have df:=Nf iO;clear gy bQ bR io iO pc0 pc1 pc2 pf0 pf1 pf2
    go_wp2_with fail
    go_meet
    case rel=>exact⟨_,_,rfl,rfl,Ua,Ua,dd.out.lt,df.out.lt,dd.out.c0,dd.out.c1,dd.out.c2,df.out.c0,df.out.c1,df.out.c2,Ja bV5 Q0.out,Ja bV5 Q1.out,Jd eM bV5⟩
  ·refine Jj fun K hK=>?_;go_simp;refine hK _ _ ⟨HS.out _ (Jc bV0 _),?_⟩;clear hK K
   try simp only [Act.put,sa1,sa2,sa3]
   refine Ys fun V1 hV=>?_;have bV1:=Nd W1 V1 (by rw [hV];exact Jc bV0 _)
   have bQ:AtZ V1 V0.heap.size (.int .i64 0) (.int .i64 0) (.int .i64 0):=Vp
   (try have aS:=bR.lt)
   (try replace bR:=bR.later (show Below _ _ V1 by rw [hV];exact Jc (Nt) _))
   have gK:W1.heap.size<=V0.heap.size:=bV0.size;clear hV;refine Jfe (i:=3) (j:=12) Ue Ul Ul rfl rfl ?_ ?_
   ·refine Jj fun K hK=>?_;go_simp;refine(nN _).mono ?_;rintro r V2 ⟨rfl,ef⟩;dsimp only;have bV2:=Nd W1 V2 (Jd bV1 ef);refine hK _ _ ⟨HS.out _ bV2,?_⟩;clear hK K
    try simp only [Act.put,sa1,sa2,sa3]
    (try replace bQ:=bQ.later ef)
    (try replace bR:=bR.later ef)
    refine Kb 12 ?_;refine Jj fun K hK=>?_;go_simp;refine hK _ _ ⟨HS.out _ (Jc bV2 _),?_⟩;clear hK K
    try simp only [Act.put,sa1,sa2,sa3]
    refine Ys fun V3 hV=>?_;have bV3:=Nd W1 V3 D5;have bR:AtZ V3 V2.heap.size (.bool false) (.int .i64 0) (.int .i64 0):=Vp
    (try have aS:=bQ.lt)
    (try replace bQ:=bQ.later (show Below _ _ V3 by rw [hV];exact Jc (Nt) _))
    have qV:W1.heap.size<=V2.heap.size:=bV2.size;clear hV;refine Kb 13 ?_;obtain⟨xc0,xc1,xc2,xf0,xf1,xf2⟩:=id bQ;refine Jj fun K hK=>?_;go_simp;refine hK _ _ ⟨HS.out _ (Qq _ _ _ bV3 gK),?_⟩;clear xc0 xc1 xc2 xf0 xf1 xf2;clear hK K
    try simp only [Act.put,sa1,sa2,sa3]
    refine Ys fun V4 hV=>?_;have bV4:=Nd W1 V4 Fe;have pQ:=bQ.lt
    (try have pR:=bR.lt)
    (try (have ec:=bR.othr bQ (.int .i64 (Ky op)) (.int .i64 (Kan op)) (.int .i64 (Xn op f)) Ua;rw [<-hV] at ec;clear bR;have bR:=ec;clear ec))
    have bW:=bQ.set (.int .i64 (Ky op)) (.int .i64 (Kan op)) (.int .i64 (Xn op f));rw [<-hV] at bW;clear bQ;have bQ:=bW;clear bW;clear hV;refine Kh Ue ?_;obtain⟨pc0,pc1,pc2,pf0,pf1,pf2⟩:=id bR;refine Qx 14 ?_;refine Jj fun K hK=>?_;go_simp;refine hK _ _ ?_;clear hK K
    try simp only [Act.put,sa1,sa2,sa3]
    refine Ki Ue ?_;refine Zc fun V5 gy=>?_;have bV5:=Nd W1 V5 Fd;have pQ:=bQ.lt;have pR:=bR.lt;have io:=bQ.othr bR (.bool p.met) (.int .i64 p.d) (.int .i64 p.f) Ua;have iO:=bR.set (.bool p.met) (.int .i64 p.d) (.int .i64 p.f);rw [<-gy] at io iO;have dd:=Nf io;have df:=Nf iO;clear gy bQ bR io iO pc0 pc1 pc2 pf0 pf1 pf2
    go_wp2_with fail
    go_meet
    case rel=>exact⟨_,_,rfl,rfl,Ua,Ua,dd.out.lt,df.out.lt,dd.out.c0,dd.out.c1,dd.out.c2,df.out.c0,df.out.c1,df.out.c2,Ja bV5 Q0.out,Ja bV5 Q1.out,Jd eM bV5⟩
   ·refine Jj fun K hK=>?_;go_simp;refine hK _ _ ⟨HS.out _ (Jc bV1 _),?_⟩;clear hK K
    try simp only [Act.put,sa1,sa2,sa3]
    refine Ys fun V2 hV=>?_;have bV2:=Nd W1 V2 D0;have bR:AtZ V2 V1.heap.size (.bool false) (.int .i64 0) (.int .i64 0):=Vp
    (try have aS:=bQ.lt)
    (try replace bQ:=bQ.later (show Below _ _ V2 by rw [hV];exact Jc (Nt) _))
    have qV:W1.heap.size<=V1.heap.size:=bV1.size;clear hV;refine Kb 3 ?_;refine Jj fun K hK=>?_;go_simp;refine(nN _).mono ?_;rintro r V3 ⟨rfl,ef⟩;dsimp only;have bV3:=Nd W1 V3 (Jd bV2 ef);refine hK _ _ ⟨HS.out _ bV3,?_⟩;clear hK K
    try simp only [Act.put,sa1,sa2,sa3]
    (try replace bQ:=bQ.later ef)
    (try replace bR:=bR.later ef)
    refine Kb 13 ?_;obtain⟨xc0,xc1,xc2,xf0,xf1,xf2⟩:=id bQ;refine Jj fun K hK=>?_;go_simp;refine hK _ _ ⟨HS.out _ (Qq _ _ _ bV3 gK),?_⟩;clear xc0 xc1 xc2 xf0 xf1 xf2;clear hK K
    try simp only [Act.put,sa1,sa2,sa3]
    refine Ys fun V4 hV=>?_;have bV4:=Nd W1 V4 Fe;have pQ:=bQ.lt
    (try have pR:=bR.lt)
    (try (have ec:=bR.othr bQ (.int .i64 (Ky op)) (.int .i64 (Kan op)) (.int .i64 (Xn op f)) Ua;rw [<-hV] at ec;clear bR;have bR:=ec;clear ec))
    have bW:=bQ.set (.int .i64 (Ky op)) (.int .i64 (Kan op)) (.int .i64 (Xn op f));rw [<-hV] at bW;clear bQ;have bQ:=bW;clear bW;clear hV;refine Kh Ue ?_;obtain⟨pc0,pc1,pc2,pf0,pf1,pf2⟩:=id bR;refine Qx 14 ?_;refine Jj fun K hK=>?_;go_simp;refine hK _ _ ?_;clear hK K
    try simp only [Act.put,sa1,sa2,sa3]
    refine Ki Ue ?_;refine Zc fun V5 gy=>?_;have bV5:=Nd W1 V5 Fd;have pQ:=bQ.lt;have pR:=bR.lt;have io:=bQ.othr bR (.bool p.met) (.int .i64 p.d) (.int .i64 p.f) Ua;have iO:=bR.set (.bool p.met) (.int .i64 p.d) (.int .i64 p.f);rw [<-gy] at io iO;have dd:=Nf io;have df:=Nf iO;clear gy bQ bR io iO pc0 pc1 pc2 pf0 pf1 pf2
    go_wp2_with fail
    go_meet
    case rel=>exact⟨_,_,rfl,rfl,Ua,Ua,dd.out.lt,df.out.lt,dd.out.c0,dd.out.c1,dd.out.c2,df.out.c0,df.out.c1,df.out.c2,Ja bV5 Q0.out,Ja bV5 Q1.out,Jd eM bV5⟩
  ·refine Jj fun K hK=>?_;go_simp;refine hK _ _ ⟨HS.out _ (Jc bV0 _),?_⟩;clear hK K
   try simp only [Act.put,sa1,sa2,sa3]
   refine Ys fun V1 hV=>?_;have bV1:=Nd W1 V1 (by rw [hV];exact Jc bV0 _)
   have bR:AtZ V1 V0.heap.size (.bool false) (.int .i64 0) (.int .i64 0):=Vp
   (try have aS:=bQ.lt)
   (try replace bQ:=bQ.later (show Below _ _ V1 by rw [hV];exact Jc (Nt) _))
   have qV:W1.heap.size<=V0.heap.size:=bV0.size;clear hV;refine Jfe (i:=3) (j:=11) Ue Ul Ul rfl rfl ?_ ?_
   ·refine Jj fun K hK=>?_;go_simp;refine(nN _).mono ?_;rintro r V2 ⟨rfl,ef⟩;dsimp only;have bV2:=Nd W1 V2 (Jd bV1 ef);refine hK _ _ ⟨HS.out _ bV2,?_⟩;clear hK K
    try simp only [Act.put,sa1,sa2,sa3]
    (try replace bQ:=bQ.later ef)
    (try replace bR:=bR.later ef)
    refine Kb 11 ?_;refine Jj fun K hK=>?_;go_simp;refine hK _ _ ⟨HS.out _ (Jc bV2 _),?_⟩;clear hK K
    try simp only [Act.put,sa1,sa2,sa3]
    refine Ys fun V3 hV=>?_;have bV3:=Nd W1 V3 D5;have bQ:AtZ V3 V2.heap.size (.int .i64 0) (.int .i64 0) (.int .i64 0):=Vp
    (try have aS:=bR.lt)
    (try replace bR:=bR.later (show Below _ _ V3 by rw [hV];exact Jc (Nt) _))
    have gK:W1.heap.size<=V2.heap.size:=bV2.size;clear hV;refine Kb 13 ?_;obtain⟨xc0,xc1,xc2,xf0,xf1,xf2⟩:=id bQ;refine Jj fun K hK=>?_;go_simp;refine hK _ _ ⟨HS.out _ (Qq _ _ _ bV3 gK),?_⟩;clear xc0 xc1 xc2 xf0 xf1 xf2;clear hK K
    try simp only [Act.put,sa1,sa2,sa3]
    refine Ys fun V4 hV=>?_;have bV4:=Nd W1 V4 Fe;have pQ:=bQ.lt
    (try have pR:=bR.lt)
    (try (have ec:=bR.othr bQ (.int .i64 (Ky op)) (.int .i64 (Kan op)) (.int .i64 (Xn op f)) Ua;rw [<-hV] at ec;clear bR;have bR:=ec;clear ec))
    have bW:=bQ.set (.int .i64 (Ky op)) (.int .i64 (Kan op)) (.int .i64 (Xn op f));rw [<-hV] at bW;clear bQ;have bQ:=bW;clear bW;clear hV;refine Kh Ue ?_;obtain⟨pc0,pc1,pc2,pf0,pf1,pf2⟩:=id bR;refine Qx 14 ?_;refine Jj fun K hK=>?_;go_simp;refine hK _ _ ?_;clear hK K
    try simp only [Act.put,sa1,sa2,sa3]
    refine Ki Ue ?_;refine Zc fun V5 gy=>?_;have bV5:=Nd W1 V5 Fd;have pQ:=bQ.lt;have pR:=bR.lt;have io:=bQ.othr bR (.bool p.met) (.int .i64 p.d) (.int .i64 p.f) Ua;have iO:=bR.set (.bool p.met) (.int .i64 p.d) (.int .i64 p.f);rw [<-gy] at io iO;have dd:=Nf io;have df:=Nf iO;clear gy bQ bR io iO pc0 pc1 pc2 pf0 pf1 pf2
    go_wp2_with fail
    go_meet
    case rel=>exact⟨_,_,rfl,rfl,Ua,Ua,dd.out.lt,df.out.lt,dd.out.c0,dd.out.c1,dd.out.c2,df.out.c0,df.out.c1,df.out.c2,Ja bV5 Q0.out,Ja bV5 Q1.out,Jd eM bV5⟩
   ·refine Jj fun K hK=>?_;go_simp;refine hK _ _ ⟨HS.out _ (Jc bV1 _),?_⟩;clear hK K
    try simp only [Act.put,sa1,sa2,sa3]
    refine Ys fun V2 hV=>?_;have bV2:=Nd W1 V2 D0;have bQ:AtZ V2 V1.heap.size (.int .i64 0) (.int .i64 0) (.int .i64 0):=Vp
    (try have aS:=bR.lt)
    (try replace bR:=bR.later (show Below _ _ V2 by rw [hV];exact Jc (Nt) _))
    have gK:W1.heap.size<=V1.heap.size:=bV1.size;clear hV;refine Kb 3 ?_;refine Jj fun K hK=>?_;go_simp;refine(nN _).mono ?_;rintro r V3 ⟨rfl,ef⟩;dsimp only;have bV3:=Nd W1 V3 (Jd bV2 ef);refine hK _ _ ⟨HS.out _ bV3,?_⟩;clear hK K
    try simp only [Act.put,sa1,sa2,sa3]
    (try replace bQ:=bQ.later ef)
    (try replace bR:=bR.later ef)
    refine Kb 13 ?_;obtain⟨xc0,xc1,xc2,xf0,xf1,xf2⟩:=id bQ;refine Jj fun K hK=>?_;go_simp;refine hK _ _ ⟨HS.out _ (Qq _ _ _ bV3 gK),?_⟩;clear xc0 xc1 xc2 xf0 xf1 xf2;clear hK K
    try simp only [Act.put,sa1,sa2,sa3]
    refine Ys fun V4 hV=>?_;have bV4:=Nd W1 V4 Fe;have pQ:=bQ.lt
    (try have pR:=bR.lt)
    (try (have ec:=bR.othr bQ (.int .i64 (Ky op)) (.int .i64 (Kan op)) (.int .i64 (Xn op f)) Ua;rw [<-hV] at ec;clear bR;have bR:=ec;clear ec))
    have bW:=bQ.set (.int .i64 (Ky op)) (.int .i64 (Kan op)) (.int .i64 (Xn op f));rw [<-hV] at bW;clear bQ;have bQ:=bW;clear bW;clear hV;refine Kh Ue ?_;obtain⟨pc0,pc1,pc2,pf0,pf1,pf2⟩:=id bR;refine Qx 14 ?_;refine Jj fun K hK=>?_;go_simp;refine hK _ _ ?_;clear hK K
    try simp only [Act.put,sa1,sa2,sa3]
    refine Ki Ue ?_;refine Zc fun V5 gy=>?_;have bV5:=Nd W1 V5 Fd;have pQ:=bQ.lt;have pR:=bR.lt;have io:=bQ.othr bR (.bool p.met) (.int .i64 p.d) (.int .i64 p.f) Ua;have iO:=bR.set (.bool p.met) (.int .i64 p.d) (.int .i64 p.f);rw [<-gy] at io iO;have dd:=Nf io;have df:=Nf iO;clear gy bQ bR io iO pc0 pc1 pc2 pf0 pf1 pf2
    go_wp2_with fail
    go_meet
    case rel=>exact⟨_,_,rfl,rfl,Ua,Ua,dd.out.lt,df.out.lt,dd.out.c0,dd.out.c1,dd.out.c2,df.out.c0,df.out.c1,df.out.c2,Ja bV5 Q0.out,Ja bV5 Q1.out,Jd eM bV5⟩
 case rest=>
  obtain⟨gx,gp,rfl,rfl,zx1,zp1,zx2,zp2,t0,t1,t2,m0,m1,m2,q0,q1,bU⟩:=hcut;have x0:=Ja bU c0;have x1:=Ja bU c1;have fx:=(Jf bU X 1 pO).trans fX;have HPC:=Nf (HP.out.later hB bU);have tkr:=Jjp op;have gvr:=Jj1 op;have hR:=HR.out;clear HR HP nN ac eM y0 y1 y2 k0 k1 k2 k3 k4 b0 b1 b2;generalize Ky op=tk at *;generalize Kan op=gv at *;generalize Xn op f=rm at *;obtain⟨pm,pd,pf⟩:=p;dsimp only at *;obtain⟨lA,js,zb,db,gG⟩:=hpd;have hwN:wrap64 N=N:=by unfold I32 at hN;unfold wrap64;omega
  clear gG
  by_cases hA:0<=rm/\rm<=N
  ·rw [if_pos hA] at hR;have pS:=Nf (show R.1=10 by rw [hR]);obtain⟨hA1,tM⟩:=hA;have dA1:decide (0<=rm)=true:=by simpa using hA1
   have dA2:decide (rm<=N)=true:=by simpa using tM
   clear hR
   go_wp2_with fail
   go_ret;exact Jhi.bel (Jm pS.out.symm) Sy pO bU
  ·have xJ:rm<0\/N<rm:=Ua;rw [if_neg hA] at hR;clear hA;have HRH:=Nf hR;clear hR
   go_upto_region 6 with fail
   go_cut [38] from 39 to 49 (fun s wx=>s = .bool false/\wx=wc)
   case first=>
    rcases xJ with xJ|xJ
    ·go_wp2_with fail
     go_meet
     case rel=>exact⟨rfl,rfl⟩
    ·by_cases h0:0<=rm
     ·have dA2:¬rm<=N:=Ua
      go_wp2_with fail
      go_meet
      case rel=>exact⟨rfl,rfl⟩
     ·go_wp2_with fail
      go_meet
      case rel=>exact⟨rfl,rfl⟩
   case rest=>
    obtain⟨rfl,rfl⟩:=hcut;have hR:=HRH.out;clear xJ HRH t2
    cases pm
    ·rw [if_pos rfl] at hR;have pS:=Nf (show R.1=13 by rw [hR]);clear hR
     go_wp2_with fail
     go_ret;exact Jhi.bel (Jm pS.out.symm) Sy pO bU
    rw [if_neg Ug] at hR
    by_cases dr:pd<tk
    ·rw [if_pos (.inl dr)] at hR;exact Ua2
    by_cases dk:16<pd-tk+gv
    ·rw [if_pos (.inr dk)] at hR;exact Ua2
    rw [if_neg Ua] at hR;have hd:0<=pd-tk+gv/\pd-tk+gv<=16:=Ua;have sN:=Nf hR;clear hR;have hyX:=Nu x0
    go_upto_region 13 with fail
    refine Jo fun V hV=>?_;have mH:(if dep<pd-tk+gv then pd-tk+gv else dep)=max dep (pd-tk+gv):=Ua;rw [mH] at hV ⊢
    have jQ:Jl4 X B W V (max dep (pd-tk+gv)):=by
     rw [hV];exact⟨(J6.bel bU).setCell (.inr rfl) _ _,(J5 _ _ _ _ _ Ug).trans (Jg bU _ _ pO),Nx _ _ _ x1,(J5 _ _ _ _ _ Ug).trans (Jg bU _ _ pO),fun o=>(World.frozen?_setCell ..).trans (Jf bU _ _ pO)⟩
    have zc:Zv V B ps:=by rw [hV];exact HPC.out.blk jt _
    have v0:=Nb V X 0 (.slice (some ⟨B,0,none⟩) ps.length ps.length) (by rw [hV,J5 _ _ _ _ _ Ug];exact x0)
    have vm:=Na V gp 2 pf (by rw [hV,Qm _ _ _ _ _ _ Ua];exact m2)
    have vq0:=Na V W.heap.size 0 op (by rw [hV,Qm _ _ _ _ _ _ Ua];exact q0)
    have vq1:=Nb V W.heap.size 1 (.int .i32 N) (by rw [hV,Qm _ _ _ _ _ _ Ua];exact q1)
    have rB:B<V.heap.size:=by have:=jQ.k.size;omega
    have kM:=Nu v0;clear hV mH x0 x1 fx t0 t1 m0 m1 m2 q0 q1 HPC dr dk c0 c1 fX;have HV:=Nf jQ;have wS:=Nf zc;clear jQ zc;generalize pd-tk+gv=d at *;generalize gI:max dep d=mx at *;clear gI;have sO:=fun(W:World) (ps':List Pl) (j:Nat) hc hp hB wR ai gG=>Jws X B ps' j d (pf+1) W jt hc hp hB wR ai gG;have mY:=Nf sO;clear sO
    by_cases bM:op=10
    ·have t10:(op == 10)=true:=F7;have t10n:(op != 10)=false:=F7;have uy:=Jpw HRT.out (.inl bM);obtain⟨hN0,hN6⟩:=uy;have hR:=sN.out
     by_cases hJ:(ps.length:Int)<=(at_:Int)+1+N
     ·rw [if_pos ⟨.inl bM,hJ⟩] at hR;have hY:=Nf (show R.1=11 by rw [hR]);have dJ:decide ((ps.length:Int)<=(at_:Int)+1+N)=true:=by simpa using hJ
      clear hR bM sN hJ;exact Ual
     rw [if_neg Ua,if_pos bM] at hR;dsimp only at hR;rw [if_pos (.inl bM)] at hR;have dJ:decide ((ps.length:Int)<=(at_:Int)+1+N)=false:=by simpa using hJ
     obtain⟨j,hj⟩:∃j:Nat,j=((at_:Int)+1+N).toNat:=⟨_,rfl⟩;rw [<-hj] at hR;have mX:j<ps.length:=Ua;have jO:(j:Int)=(at_:Int)+1+N:=Ua;clear bM sN hj
     go_upto_region 14 with fail
     go_quiet (fail)
     go_upto_region 16 with fail
     refine Jo fun V2 bz=>?_;have bK:=Nd V V2 (by rw [bz];exact Jb)
     have w0:=Ja bK v0;have wm:=Ja bK vm;have wq0:=Ja bK vq0;have wq1:=Ja bK vq1;have bL:=Nf (HV.out.step kM jt (J6.bel bK));have zd:=Nf (wS.out.later rB bK);have ke:=Nu w0;have mi:B<V2.heap.size:=Nr rB bK.size;clear bz bK v0 vm vq0 vq1 HV wS rB kM;have ak:=mY.out V2 ps j w0 zd.out mi mX pP (fun p hp=>(kc.out.all _ p hp).2.2.2.2);rw [jO] at ak;clear jO
     cases fG:Ja5 ps j d (pf+1) with
     | none=>
      rw [fG] at hR ak;have hY:=Nf (show R.1=12 by rw [hR]);clear hR fG
      go_wp2_with (go_at_call 97;refine ak.mono ?_;rintro r V3 ⟨rfl,ip,dU⟩)
      go_ret;exact(bL.out.step ke jt dU).done (Jm hY.out.symm) (fun h=>absurd (hY.out.symm.trans h) Ug)
     | some ps1=>
      rw [fG] at hR ak;dsimp only at hR;have hY:=Nf hR;clear hR fG
      go_wp2_with (go_at_call 97;refine ak.mono ?_;rintro r V3 ⟨rfl,ip,dU⟩)
      go_ret;exact(bL.out.step ke jt dU).done (Jm (by rw [hY.out])) (fun _=>by rw [hY.out];exact⟨ip,rfl⟩)
    by_cases gh:op=11
    ·have t10:(op == 10)=false:=F7;have t10n:(op != 10)=true:=F7;have t11:(op == 11)=true:=by simpa using gh
     have uy:=Jpw HRT.out (.inr gh);obtain⟨hN0,hN6⟩:=uy;have hR:=sN.out
     by_cases hJ:(ps.length:Int)<=(at_:Int)+1+N
     ·rw [if_pos ⟨.inr gh,hJ⟩] at hR;have hY:=Nf (show R.1=11 by rw [hR]);have dJ:decide ((ps.length:Int)<=(at_:Int)+1+N)=true:=by simpa using hJ
      clear hR bM gh sN hJ;exact Ual
     rw [if_neg Ua,if_neg bM] at hR;have dJ:decide ((ps.length:Int)<=(at_:Int)+1+N)=false:=by simpa using hJ
     obtain⟨j,hj⟩:∃j:Nat,j=((at_:Int)+1+N).toNat:=⟨_,rfl⟩;rw [<-hj] at hR;have mX:j<ps.length:=Ua;have jO:(j:Int)=(at_:Int)+1+N:=Ua;have hj11:op=10\/op=11:= .inr gh;clear bM gh sN hj
     go_upto_region 14 with fail
     go_quiet (fail)
     go_upto_region 16 with fail
     refine Jo fun V2 bz=>?_;have bK:=Nd V V2 (by rw [bz];exact Jb)
     have w0:=Ja bK v0;have wm:=Ja bK vm;have wq0:=Ja bK vq0;have wq1:=Ja bK vq1;have bL:=Nf (HV.out.step kM jt (J6.bel bK));have zd:=Nf (wS.out.later rB bK);have ke:=Nu w0;have mi:B<V2.heap.size:=Nr rB bK.size;clear bz bK v0 vm vq0 vq1 HV wS rB kM;have ak:=mY.out V2 ps (at_+1) w0 zd.out mi (by have:=eO.out;omega) pP (fun p hp=>(kc.out.all _ p hp).2.2.2.2);rw [show((at_+1:Nat):Int)=(at_:Int)+1 by omega] at ak
     cases fG:Ja5 ps (at_+1) d (pf+1) with
     | none=>
      rw [fG] at hR ak;have hY:=Nf (show R.1=12 by rw [hR]);clear hR fG jO
      go_wp2_with (go_at_call 97;refine ak.mono ?_;rintro r V3 ⟨rfl,ip,dU⟩)
      go_ret;exact(bL.out.step ke jt dU).done (Jm hY.out.symm) (fun h=>absurd (hY.out.symm.trans h) Ug)
     | some ps1=>
      have uz:=(kc.out.more (Nat.le_succ at_)).come fG hd ⟨Ua,Ua⟩;have bI:=Jv1 fG;rw [fG] at hR ak;dsimp only at hR;rw [if_pos hj11] at hR;have dm:=fun V3 hx hp hb=>mY.out V3 ps1 j hx hp hb Ua Ua (fun p hp=>(uz.all _ p hp).2.2.2.2);rw [jO,bI] at dm;have HOK1:=Nf uz;have gK:gp≠B:=Ua;have hwx:W.heap.size≠B:=Ua;clear jO uz bI fG
      cases nO:Ja5 ps1 j d (pf+1) with
      | none=>
       rw [nO] at hR dm;have hY:=Nf (show R.1=12 by rw [hR]);clear hR nO
       go_wp2_with (first
        | (have hcX:=uA;go_at_call 97;refine(dm _ uA ip cZ).mono ?_;rintro r V4 ⟨rfl,bT,iA⟩)
        | (go_at_call 97;refine ak.mono ?_;rintro r V3 ⟨rfl,ip,dU⟩;have uA:=dU.cell (b:=X) jt w0;have cZ:B<V3.heap.size:=Nr mi dU.size;have wm3:=dU.cell (b:=gp) gK wm;have wq3:=dU.cell (b:=W.heap.size) hwx wq0;have wq4:=dU.cell (b:=W.heap.size) hwx wq1))
       go_ret;exact((bL.out.step ke jt dU).step (Nu uA) jt iA).done (Jm hY.out.symm) (fun h=>absurd (hY.out.symm.trans h) Ug)
      | some ps2=>
       rw [nO] at hR dm;dsimp only at hR;have hY:=Nf hR;clear hR nO
       go_wp2_with (first
        | (have hcX:=uA;go_at_call 97;refine(dm _ uA ip cZ).mono ?_;rintro r V4 ⟨rfl,bT,iA⟩)
        | (go_at_call 97;refine ak.mono ?_;rintro r V3 ⟨rfl,ip,dU⟩;have uA:=dU.cell (b:=X) jt w0;have cZ:B<V3.heap.size:=Nr mi dU.size;have wm3:=dU.cell (b:=gp) gK wm;have wq3:=dU.cell (b:=W.heap.size) hwx wq0;have wq4:=dU.cell (b:=W.heap.size) hwx wq1))
       go_ret;exact((bL.out.step ke jt dU).step (Nu uA) jt iA).done (Jm (by rw [hY.out])) (fun _=>by rw [hY.out];exact⟨bT,rfl⟩)
    ·have t10:(op == 10)=false:=F7;have t11:(op == 11)=false:=by simpa using gh
     have t10n:(op != 10)=true:=F7;have hR:=sN.out;rw [if_neg Ua,if_neg bM] at hR;have hnj:¬(op=10\/op=11):=Ua;clear bM gh sN
     go_upto_region 14 with fail
     go_quiet (fail)
     go_upto_region 16 with fail
     refine Jo fun V2 bz=>?_;have bK:=Nd V V2 (by rw [bz];exact Jb)
     have w0:=Ja bK v0;have wm:=Ja bK vm;have wq0:=Ja bK vq0;have wq1:=Ja bK vq1;have bL:=Nf (HV.out.step kM jt (J6.bel bK));have zd:=Nf (wS.out.later rB bK);have ke:=Nu w0;have mi:B<V2.heap.size:=Nr rB bK.size;clear bz bK v0 vm vq0 vq1 HV wS rB kM;have ak:=mY.out V2 ps (at_+1) w0 zd.out mi (by have:=eO.out;omega) pP (fun p hp=>(kc.out.all _ p hp).2.2.2.2);rw [show((at_+1:Nat):Int)=(at_:Int)+1 by omega] at ak
     cases fG:Ja5 ps (at_+1) d (pf+1) with
     | none=>
      rw [fG] at hR ak;have hY:=Nf (show R.1=12 by rw [hR]);clear hR fG
      go_wp2_with (go_at_call 97;refine ak.mono ?_;rintro r V3 ⟨rfl,ip,dU⟩)
      go_ret;exact(bL.out.step ke jt dU).done (Jm hY.out.symm) (fun h=>absurd (hY.out.symm.trans h) Ug)
     | some ps1=>
      rw [fG] at hR ak;dsimp only at hR;rw [if_neg hnj] at hR;have hY:=Nf hR;clear hR fG
      go_wp2_with (go_at_call 97;refine ak.mono ?_;rintro r V3 ⟨rfl,ip,dU⟩)
      go_ret;exact(bL.out.step ke jt dU).done (Jm (by rw [hY.out])) (fun _=>by rw [hY.out];exact⟨ip,rfl⟩)
end Go.Proofs.YtdgjplldlfeolaaGreatDoor
