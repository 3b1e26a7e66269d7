/- Lemmas. -/
import Derived.Test.YtknfcamdfdfoeaaGreatDoorMac
import Derived.Test.YtknfcamdfdfoeaaGreatDoorZ37
import Derived.Deep.RegionLaw
import Derived.Test.YtknfcamdfdfoeaaGreatDoorZ36
import Derived.Deep.CutRange
import Derived.Test.YtknfcamdfdfoeaaGreatDoorZ21
set_option linter.unusedVariables false
set_option linter.unusedSimpArgs false
set_option maxRecDepth 100000
set_option maxHeartbeats 64000000
namespace Go.Proofs.YtknfcamdfdfoeaaGreatDoor
open Go.RowKit Go.Sort
def frV (f:Fr):Value:= .agg #[.int .i64 f.s,.int .i64 f.o,.int .i64 f.n,.int .i64 f.i,.int .i64 f.u]
theorem Jyr (n m:Int) (w:World):Calls Tryz.prog 88 #[.int .i64 n,.int .i64 m] w fun r w'=>r = .returned (.bool (inB n m))/\Below w.heap.size w w':=by
 by_cases h0:0<=n
 ·by_cases h1:n<=m
  ·have hv:inB n m=true:=by unfold inB;simp [h0,h1]
   exact Ucj
  ·have hv:inB n m=false:=by unfold inB;simp [h1]
   exact Ucj
 ·have hv:inB n m=false:=by unfold inB;simp [h0]
  exact Ucj
theorem Jt4 (f:Fr) (w:World):Calls Tryz.prog 59 #[frV f] w fun r w'=>r = .returned (.int .i64 (if f.good=true then 0 else 1))/\Below w.heap.size w w':=by
 have dV:=fun n m W=>Jyr n m W;obtain⟨s,o,n,i,u⟩:=f;obtain⟨R,hR⟩:∃R:Int,R=if (Fr.mk s o n i u).good=true then 0 else 1:=⟨_,rfl⟩;rw [<-hR];unfold Fr.good at hR;unfold frV;dsimp only at *
 cases h1:inB s 24
 ·rw [h1] at hR;simp only [Bool.false_and,Bool.false_eq_true,if_false] at hR;have HV:=Lib.hid hR;clear hR
  go_enter Tryz.func59,Tryz.ntmps59
  go_wp2_with (first|(go_at_call 88;refine(dV _ _ _).mono ?_;rintro r w1 ⟨rfl,ac⟩;have ⟨ak,af⟩:=aft ac;(try simp at af);(try have bV:=lt0 w w1);(try have gq:=ltA w 1 w1);(try have ow:=ltA w 2 w1);(try have ns:=lt0 wr w1);(try have nt:=ltA wr 1 w1)))
  exact Udf
 cases h2:inB o 16
 ·rw [h1,h2] at hR;exact Ufd
 cases h3:inB n 16
 ·rw [h1,h2,h3] at hR;exact Ufd
 cases h4:inB i 8
 ·rw [h1,h2,h3,h4] at hR;exact Ufd
 cases h5:inB u 8
 all_goals
  rw [h1,h2,h3,h4,h5] at hR;simp only [Bool.true_and,Bool.and_false,Bool.and_true,Bool.false_eq_true,if_false,if_true] at hR;have HV:=Lib.hid hR;clear hR
  go_enter Tryz.func59,Tryz.ntmps59
  go_wp2_with (first|(go_at_call 88;refine(dV _ _ _).mono ?_;rintro r w1 ⟨rfl,ac⟩;have ⟨ak,af⟩:=aft ac;(try simp at af);(try have bV:=lt0 w w1);(try have gq:=ltA w 1 w1);(try have ow:=ltA w 2 w1);(try have ns:=lt0 wr w1);(try have nt:=ltA wr 1 w1)))
  go_ret;exact⟨Jm HV.out.symm,Jb⟩
theorem Jsq (op:Int) (f:Fr) (w:World):Calls Tryz.prog 90 #[.int .i64 op,frV f] w fun r w'=>r = .returned (.agg #[.int .i64 (Ky op),.int .i64 (K1 op),.int .i64 (Xn op f)])/\Below w.heap.size w w':=by
 obtain⟨s,o,n,i,u⟩:=f;unfold frV;dsimp only
 rcases Jul op with h|rfl|rfl|rfl|rfl|rfl|rfl|rfl|rfl|rfl|rfl|rfl
 ·obtain⟨t1,t2,t3,t4,t5,t6,t7,t8,t9,t10,t11⟩:=h
  have hv:Ky op=0/\K1 op=0/\Xn op ⟨s,o,n,i,u⟩ = -1:=by
   simp only [beq_eq_false_iff_ne,ne_eq] at *;unfold Ky K1 Xn;refine⟨by rw [if_neg Ua,if_neg Ua],by rw [if_neg Ua],by rw [if_neg Ua,if_neg Ua,if_neg Ua,if_neg Ua,if_neg Ua]⟩
  obtain⟨v1,v2,v3⟩:=hv;rw [v1,v2,v3];clear v1 v2 v3
  go_enter Tryz.func90,Tryz.ntmps90
  go_wp2_with fail
  refine bodyPost_ret (v:= .agg #[.int .i64 0,.int .i64 0,.int .i64 (-1)]) Vb rfl ⟨rfl,Mq⟩
 all_goals
  go_enter Tryz.func90,Tryz.ntmps90
  go_wp2_with fail
 ·refine bodyPost_ret (v:= .agg #[.int .i64 0,.int .i64 1,.int .i64 (-1)]) Vb rfl ⟨Fl,Mq⟩
 ·refine bodyPost_ret (v:= .agg #[.int .i64 0,.int .i64 1,.int .i64 s]) Vb rfl ⟨Fl,Mq⟩
 ·refine bodyPost_ret (v:= .agg #[.int .i64 1,.int .i64 0,.int .i64 s]) Vb rfl ⟨Fl,Mq⟩
 ·refine bodyPost_ret (v:= .agg #[.int .i64 0,.int .i64 1,.int .i64 o]) Vb rfl ⟨Fl,Mq⟩
 ·refine bodyPost_ret (v:= .agg #[.int .i64 1,.int .i64 0,.int .i64 n]) Vb rfl ⟨Fl,Mq⟩
 ·refine bodyPost_ret (v:= .agg #[.int .i64 0,.int .i64 1,.int .i64 i]) Vb rfl ⟨Fl,Mq⟩
 ·refine bodyPost_ret (v:= .agg #[.int .i64 1,.int .i64 0,.int .i64 u]) Vb rfl ⟨Fl,Mq⟩
 ·refine bodyPost_ret (v:= .agg #[.int .i64 1,.int .i64 1,.int .i64 (-1)]) Vb rfl ⟨Fl,Mq⟩
 ·refine bodyPost_ret (v:= .agg #[.int .i64 2,.int .i64 1,.int .i64 (-1)]) Vb rfl ⟨Fl,Mq⟩
 ·refine bodyPost_ret (v:= .agg #[.int .i64 0,.int .i64 0,.int .i64 (-1)]) Vb rfl ⟨Fl,Mq⟩
 ·refine bodyPost_ret (v:= .agg #[.int .i64 1,.int .i64 0,.int .i64 (-1)]) Vb rfl ⟨Fl,Mq⟩
structure Zv (W:World) (B:Nat) (ps:List Pl):Prop where
 cell:∀(k:Nat) (p:Pl),ps[k]?=some p->W.cell? ⟨B,k * 3,none⟩=some (.bool p.met)/\W.cell? ⟨B,k * 3+1,none⟩=some (.int .i64 p.d)/\W.cell? ⟨B,k * 3+2,none⟩=some (.int .i64 p.f)
 fz:∀o,W.frozen? ⟨B,o,none⟩=false
theorem Zv.set {W W2:World} {B tg:Nat} {ps:List Pl} {p:Pl} (h:Zv W B ps) (ho:∀o,(o<tg * 3\/tg * 3+3<=o)->W2.cell? ⟨B,o,none⟩=W.cell? ⟨B,o,none⟩)
  (h0:W2.cell? ⟨B,tg * 3,none⟩=some (.bool p.met)) (h1:W2.cell? ⟨B,tg * 3+1,none⟩=some (.int .i64 p.d)) (h2:W2.cell? ⟨B,tg * 3+2,none⟩=some (.int .i64 p.f)) (hf:∀o,W2.frozen? ⟨B,o,none⟩=W.frozen? ⟨B,o,none⟩):Zv W2 B (ps.set tg p):=by
 refine⟨fun k q hk=>?_,fun o=>(hf o).trans (h.fz o)⟩;rw [List.getElem?_set] at hk
 by_cases hj:tg=k
 ·subst hj;rw [if_pos rfl] at hk
  split at hk
  ·injection hk with hk;subst hk;exact⟨h0,h1,h2⟩
  ·cases hk
 ·rw [if_neg hj] at hk;obtain⟨a1,a2,a3⟩:=h.cell k q hk;exact⟨(ho _ Ua).trans a1,(ho _ Ua).trans a2,(ho _ Ua).trans a3⟩
theorem Zv.later {W W2:World} {B:Nat} {ps:List Pl} (h:Zv W B ps) (hB:B<W.heap.size) (hb:Below W.heap.size W W2):Zv W2 B ps:=
 ⟨fun k p hk=>by obtain⟨a1,a2,a3⟩:=h.cell k p hk;exact⟨Ja hb a1,Ja hb a2,Ja hb a3⟩,fun o=>(Jf hb B o hB).trans (h.fz o)⟩
theorem Zv.store1 {W:World} {B tg:Nat} {ps:List Pl} {q:Pl} (h:Zv W B ps) (hx:ps[tg]?=some q) (f:Int):Zv (W.setCell ⟨B,tg * 3+2,none⟩ (.int .i64 f)) B (ps.set tg ⟨q.met,q.d,f⟩):=by
 obtain⟨c0,c1,c2⟩:=h.cell tg q hx;have ne:∀o,o≠tg * 3+2->(W.setCell ⟨B,tg * 3+2,none⟩ (.int .i64 f)).cell? ⟨B,o,none⟩=W.cell? ⟨B,o,none⟩:=fun o ho=>World.cell?_setCell_other _ _ _ _ Le;exact h.set (fun o ho=>ne o Ua) ((ne _ Ua).trans c0) ((ne _ Ua).trans c1) (World.cell?_setCell_same _ _ _ c2) (fun o=>World.frozen?_setCell ..)
theorem Zv.store3 {W:World} {B tg:Nat} {ps:List Pl} {q:Pl} (h:Zv W B ps) (hx:ps[tg]?=some q) (m:Bool) (d f:Int):Zv (((W.setCell ⟨B,tg * 3,none⟩ (.bool m)).setCell ⟨B,tg * 3+1,none⟩ (.int .i64 d)).setCell ⟨B,tg * 3+2,none⟩ (.int .i64 f)) B (ps.set tg ⟨m,d,f⟩):=by
 obtain⟨c0,c1,c2⟩:=h.cell tg q hx;have ne:∀(W:World) (j:Nat) (u:Value) (o:Nat),o≠j->(W.setCell ⟨B,j,none⟩ u).cell? ⟨B,o,none⟩=W.cell? ⟨B,o,none⟩:=fun W j u o ho=>World.cell?_setCell_other _ _ _ _ Le;refine h.set (fun o ho=>?_) ?_ ?_ ?_ (fun o=>?_)
 ·rw [ne _ _ _ _ Ua,ne _ _ _ _ Ua,ne _ _ _ _ Ua]
 ·rw [ne _ _ _ _ Ua,ne _ _ _ _ Ua];exact World.cell?_setCell_same _ _ _ c0
 ·rw [ne _ _ _ _ Ua];exact World.cell?_setCell_same _ _ _ ((ne _ _ _ _ Ua).trans c1)
 ·exact World.cell?_setCell_same _ _ _ (((ne _ _ _ _ Ua).trans (ne _ _ _ _ Ua)).trans c2)
 ·rw [World.frozen?_setCell,World.frozen?_setCell,World.frozen?_setCell]
theorem Jrl (a:Bool) (b c:Int) (w:World):(Op.equalIn 10000 137 (.agg #[.bool a,.int .i64 b,.int .i64 c]) (.agg #[.bool false,.int .i64 0,.int .i64 0])).run Tryz.prog w = .ok (!a && b == 0 && c == 0) w:=by
 have hS:Tryz.prog.underlying 137=some (.struct (Tryz.prog.fieldsOf 137)):=Ug;have hp:Tryz.prog.stoodInHeld 137=false:=Ug;rw [show(10000:Nat)=9999+1 from rfl,run_equalIn_agg w 9999 137 _ _ hS hp];simp only [Program.fieldsOf,Tryz.underlying137];go_simp
 cases a <;> by_cases h2:b=0 <;> by_cases h3:c=0 <;> simp [h2,h3]
theorem Jws (X B:Nat) (ps:List Pl) (tg:Nat) (d f:Int) (W:World) (jt:X≠B) (hc:W.cell? ⟨X,0,none⟩=some (.slice (some ⟨B,0,none⟩) ps.length ps.length)) (hp:Zv W B ps) (hB:B<W.heap.size) (wR:tg<ps.length) (ai:ps.length<=601)
  (gG:∀p,ps[tg]?=some p->p.met=false->p.d=0/\p.f=0) :
  Calls Tryz.prog 91 #[.pointer (some ⟨X,0,none⟩),.int .i64 tg,.int .i64 d,.int .i64 f] W fun r w'=>r = .returned (.bool (Ja5 ps tg d f).isSome)/\Zv w' B ((Ja5 ps tg d f).getD ps)/\J6 (fun k=>k=B) W w':=by
 have hx:ps[tg]?=some ps[tg]:=List.getElem?_eq_getElem wR;generalize ps[tg]=p at hx;have hu:=gG p hx;obtain⟨c0,c1,c2⟩:=hp.cell tg p hx;have hfz0:=hp.fz (tg * 3);have tH:=hp.fz (tg * 3+1);have hfz2:=hp.fz (tg * 3+2);have pO:=block_lt_of_cell hc;have fM:Tryz.prog.eqGuardType Tryz.prog.depth 137=false:=Ug;have hti:(tg:Int)<(ps.length:Int):=Ua;obtain⟨R,hR⟩:∃R,R=Ja5 ps tg d f:=⟨_,rfl⟩;rw [<-hR];unfold Ja5 at hR;rw [hx] at hR;dsimp only at hR;have HP:=Lib.hid hp;have HX:=Lib.hid hx;clear hp gG hx;obtain⟨pm,pd,pf⟩:=p;dsimp only at *
 cases pm
 ·obtain⟨rfl,rfl⟩:=hu rfl;rw [if_neg Ux] at hR;have HR:=Lib.hid hR;have dp:=fun w=>Jrl false 0 0 w;clear hR hu
  go_enter Tryz.func91,Tryz.ntmps91
  go_wp2_with fail
  go_ret;rw [HR.out];exact⟨rfl,(HP.out.store3 HX.out true d f).later (by simp;exact hB) (Jc (Below.refl _ _) _),((((J6.refl (S:=fun k=>k=B) W).setCell rfl _ _).setCell rfl _ _).setCell rfl _ _).trans' (J6.bel (Jc (Below.refl _ _) _))⟩
 ·rw [if_pos rfl] at hR;have dp:=fun w=>Jrl true pd pf w;simp only [Bool.not_true,Bool.false_and] at dp;clear hu
  by_cases hd:pd=d
  ·rw [if_pos hd] at hR;obtain rfl:=hd;have tq:(pd != pd)=false:=Ul
   by_cases hpf:pf<f
   ·have hm:max pf f=f:=Ua;rw [hm] at hR;have HR:=Lib.hid hR;clear hR hm
    go_enter Tryz.func91,Tryz.ntmps91
    go_wp2_with fail
    go_region_law (fail)
    all_goals
     go_wp2_with fail
     go_ret;rw [HR.out];exact⟨rfl,(HP.out.store1 HX.out f).later (by simp;exact hB) (Jh (Jc (Below.refl _ _) _)),((J6.refl (S:=fun k=>k=B) W).setCell rfl _ _).trans' (J6.bel (Jh (Jc (Below.refl _ _) _)))⟩
   ·have hm:max pf f=pf:=Ua;rw [hm] at hR;have HR:=Lib.hid hR;clear hR hm
    go_enter Tryz.func91,Tryz.ntmps91
    go_wp2_with fail
    go_region_law (fail)
    all_goals
     go_wp2_with fail
     go_ret;rw [HR.out];exact⟨rfl,(HP.out.store1 HX.out pf).later (by simp;exact hB) (Jh (Jc (Below.refl _ _) _)),((J6.refl (S:=fun k=>k=B) W).setCell rfl _ _).trans' (J6.bel (Jh (Jc (Below.refl _ _) _)))⟩
  ·rw [if_neg hd] at hR;have tq:(pd != d)=true:=G9;have HR:=Lib.hid hR;clear hR
   go_enter Tryz.func91,Tryz.ntmps91
   go_wp2_with fail
   go_ret;rw [HR.out];exact⟨rfl,HP.out.later hB Jb,J6.bel Jb⟩
def Jhi (X B:Nat) (res:Int×List Pl×Int) (W:World) (r:Ending) (w':World):Prop:=
 r = .returned (.int .i64 res.1)/\(res.1=0->Zv w' B res.2.1/\w'.cell? ⟨X,1,none⟩=some (.int .i64 res.2.2))/\J6 (fun b=>b=B\/b=X) W w'/\
 w'.cell? ⟨X,0,none⟩=W.cell? ⟨X,0,none⟩/\w'.cell? ⟨X,2,none⟩=W.cell? ⟨X,2,none⟩/\∀o,w'.frozen? ⟨X,o,none⟩=W.frozen? ⟨X,o,none⟩
theorem Jrn {ps:List Pl} {k:Nat} {p:Pl} (h:ps[k]?=some p):ps.getD k Pl.no=p:=by
 rw [List.getD_eq_getElem?_getD,h];rfl
structure Jl4 (X B:Nat) (W V:World) (m:Int):Prop where
 k:J6 (fun b=>b=B\/b=X) W V
 x0:V.cell? ⟨X,0,none⟩=W.cell? ⟨X,0,none⟩
 x1:V.cell? ⟨X,1,none⟩=some (.int .i64 m)
 x2:V.cell? ⟨X,2,none⟩=W.cell? ⟨X,2,none⟩
 fz:∀o,V.frozen? ⟨X,o,none⟩=W.frozen? ⟨X,o,none⟩
theorem Jea {W V:World} {b:Nat} (h:V.heap[b]?=W.heap[b]?) (o:Nat):V.cell? ⟨b,o,none⟩=W.cell? ⟨b,o,none⟩:=World.cell?_of_block (a:=⟨b,o,none⟩) h
theorem Jl4.step {X B:Nat} {W V V':World} {m:Int} (h:Jl4 X B W V m) (hX:X<V.heap.size) (jt:X≠B) (hk:J6 (fun b=>b=B) V V'):Jl4 X B W V' m:=by
 have hb:=hk.block X hX jt;exact⟨h.k.trans hk fun b _ hb=> .inl hb,(Jea hb 0).trans h.x0,(Jea hb 1).trans h.x1,(Jea hb 2).trans h.x2,fun o=>(World.frozen?_of_block (a:=⟨X,o,none⟩) hb).trans (h.fz o)⟩
theorem Jl4.done {X B:Nat} {res:Int×List Pl×Int} {W w':World} {m:Int} {r:Ending} (h:Jl4 X B W w' m) (hr:r = .returned (.int .i64 res.1)) (hp:res.1=0->Zv w' B res.2.1/\res.2.2=m):Jhi X B res W r w':=
 ⟨hr,fun h0=>⟨(hp h0).1,by rw [(hp h0).2];exact h.x1⟩,h.k,h.x0,h.x2,h.fz⟩
theorem Zv.blk {W:World} {X B o:Nat} {ps:List Pl} (h:Zv W B ps) (hX:X≠B) (u:Value):Zv (W.setCell ⟨X,o,none⟩ u) B ps:=
 ⟨fun k p hk=>by obtain⟨a,b,c⟩:=h.cell k p hk;exact⟨(Qm _ _ _ _ _ _ (Ne.symm hX)).trans a,(Qm _ _ _ _ _ _ (Ne.symm hX)).trans b,(Qm _ _ _ _ _ _ (Ne.symm hX)).trans c⟩,fun o=>(World.frozen?_setCell ..).trans (h.fz o)⟩
theorem Jv1 {ps ps':List Pl} {j:Nat} {d f:Int} (h:Ja5 ps j d f=some ps'):ps'.length=ps.length:=by
 unfold Ja5 at h
 cases hx:ps[j]? with
 | none=>rw [hx] at h;cases h
 | some p=>
  rw [hx] at h;dsimp only at h
  split at h
  ·split at h
   ·injection h with h;rw [<-h,List.length_set]
   ·cases h
  ·injection h with h;rw [<-h,List.length_set]
theorem Jpw {op N:Int} (h:Qj (op,N)=0) (ho:op=10\/op=11):0<=N/\N<=65535:=by
 have hw:Qp op=2:=by unfold Qp;rw [if_neg Ua,if_pos Ua]
 unfold Qj at h;dsimp only at h;rw [hw,if_neg Ux,if_neg Ux,if_neg Ua,if_neg Ua] at h
 by_cases h2:N<0\/65535<N
 ·rw [if_pos ⟨rfl,h2⟩] at h;exact absurd h Ux
 ·exact Ua
theorem Jhi.bel {X B:Nat} {res:Int×List Pl×Int} {W:World} {r:Ending} {w':World} (hr:r = .returned (.int .i64 res.1)) (h0:res.1≠0) (hX:X<W.heap.size) (hb:Below W.heap.size W w'):Jhi X B res W r w':=
 ⟨hr,fun h=>absurd h h0,J6.bel hb,Jg hb _ _ hX,Jg hb _ _ hX,fun o=>Jf hb X o hX⟩
structure AtZ (V:World) (g:Nat) (u0 u1 u2:Value):Prop where
 c0:V.cell? ⟨g,0,none⟩=some u0
 c1:V.cell? ⟨g,1,none⟩=some u1
 c2:V.cell? ⟨g,2,none⟩=some u2
 f0:V.frozen? ⟨g,0,none⟩=false
 f1:V.frozen? ⟨g,1,none⟩=false
 f2:V.frozen? ⟨g,2,none⟩=false
theorem AtZ.lt {V:World} {g:Nat} {u0 u1 u2:Value} (h:AtZ V g u0 u1 u2):g<V.heap.size:=block_lt_of_cell h.c0
theorem AtZ.later {V V':World} {g:Nat} {u0 u1 u2:Value} (h:AtZ V g u0 u1 u2) (hb:Below V.heap.size V V'):AtZ V' g u0 u1 u2:=
 ⟨Ja hb h.c0,Ja hb h.c1,Ja hb h.c2,(Jf hb _ _ h.lt).trans h.f0,(Jf hb _ _ h.lt).trans h.f1,(Jf hb _ _ h.lt).trans h.f2⟩
theorem AtZ.new (V:World) (u0 u1 u2:Value) (t:TypeId):AtZ (V.alloc (.cells #[u0,u1,u2] t)) V.heap.size u0 u1 u2:=⟨Uq,Uq,Uq,Uq,Uq,Uq⟩
theorem AtZ.set {V:World} {g:Nat} {u0 u1 u2:Value} (h:AtZ V g u0 u1 u2) (v0 v1 v2:Value):AtZ (((V.setCell ⟨g,0,none⟩ v0).setCell ⟨g,1,none⟩ v1).setCell ⟨g,2,none⟩ v2) g v0 v1 v2:=by
 obtain⟨a,b,c⟩:=Jp5 v0 v1 v2 h.c0 h.c1 h.c2;exact⟨a,b,c,(Jev _ _ _ _).trans h.f0,(Jev _ _ _ _).trans h.f1,(Jev _ _ _ _).trans h.f2⟩
theorem AtZ.other {V:World} {g k:Nat} {u0 u1 u2:Value} (h:AtZ V g u0 u1 u2) (v0 v1 v2:Value) (hk:g≠k):AtZ (((V.setCell ⟨k,0,none⟩ v0).setCell ⟨k,1,none⟩ v1).setCell ⟨k,2,none⟩ v2) g u0 u1 u2:=
 ⟨(Qy _ _ _ hk).trans h.c0,(Qy _ _ _ hk).trans h.c1,(Qy _ _ _ hk).trans h.c2,(Jev _ _ _ _).trans h.f0,(Jev _ _ _ _).trans h.f1,(Jev _ _ _ _).trans h.f2⟩
theorem AtZ.othr {V:World} {g k:Nat} {u0 u1 u2 x0 x1 x2:Value} (h:AtZ V g u0 u1 u2) (_:AtZ V k x0 x1 x2) (v0 v1 v2:Value) (hk:g≠k):AtZ (((V.setCell ⟨k,0,none⟩ v0).setCell ⟨k,1,none⟩ v1).setCell ⟨k,2,none⟩ v2) g u0 u1 u2:=h.other v0 v1 v2 hk
def Kai (W:World) (op N:Int) (f:Fr) (p:Pl) (x q:Value) (wx:World):Prop:=
 ∃gx gp,x = .pointer (some ⟨gx,0,none⟩)/\q = .pointer (some ⟨gp,0,none⟩)/\W.heap.size+2<=gx/\W.heap.size+2<=gp/\gx<wx.heap.size/\gp<wx.heap.size/\
  wx.cell? ⟨gx,0,none⟩=some (.int .i64 (Ky op))/\wx.cell? ⟨gx,1,none⟩=some (.int .i64 (K1 op))/\wx.cell? ⟨gx,2,none⟩=some (.int .i64 (Xn op f))/\
  wx.cell? ⟨gp,0,none⟩=some (.bool p.met)/\wx.cell? ⟨gp,1,none⟩=some (.int .i64 p.d)/\wx.cell? ⟨gp,2,none⟩=some (.int .i64 p.f)/\
  wx.cell? ⟨W.heap.size,0,none⟩=some (.int .i64 op)/\wx.cell? ⟨W.heap.size,1,none⟩=some (.int .i32 N)/\Below W.heap.size W wx
theorem Jp0 (X B:Nat) (ps:List Pl) (dep:Int) (at_ n:Nat) (op N:Int) (f:Fr) (W:World) (jt:X≠B) (c0:W.cell? ⟨X,0,none⟩=some (.slice (some ⟨B,0,none⟩) ps.length ps.length)) (c1:W.cell? ⟨X,1,none⟩=some (.int .i64 dep)) (fX:W.frozen? ⟨X,1,none⟩=false)
  (hp:Zv W B ps) (hB:B<W.heap.size) (aw:Jaa at_ n dep ps) (aY:at_<n) (hn:n<=600) (hN:I32 N) :
  Calls Tryz.prog 60 #[.pointer (some ⟨X,0,none⟩),.agg #[.int .i64 op,.int .i32 N],.int .i64 at_,frV f] W (Jhi X B (Jct f at_ (op,N) ps dep) W):=by
 have pO:=block_lt_of_cell c0;obtain⟨R,hR⟩:∃R,R=Jct f at_ (op,N) ps dep:=⟨_,rfl⟩;rw [<-hR];unfold Jct at hR;have aB:=fun w=>Jlr op N w;unfold Jby at aB
 by_cases hr:Qj (op,N)≠0
 ·rw [if_pos hr] at hR;have tq:(Qj (op,N) != 0)=true:=Dq;have hR1:R.1=Qj (op,N):=by rw [hR]
  have HR:=Lib.hid hR1;have HRR:=Lib.hid hr;clear hR hr hR1 aw hp;generalize Qj (op,N)=e at *;unfold frV
  go_enter Tryz.func60,Tryz.ntmps60
  go_wp2_with (first|(go_at_call 89;refine(aB _).mono ?_;rintro r w1 ⟨rfl,ac⟩;have ⟨ak,af⟩:=aft ac;(try simp at af)))
  go_ret;exact Jhi.bel (Jm HR.out.symm) (by rw [HR.out];exact HRR.out) pO Jb
 rw [if_neg hr] at hR;have eV:Qj (op,N)=0:=Dq;rw [eV] at aB;have HRT:=Lib.hid eV;clear hr eV;have ai:=aw.len;have am:at_<ps.length:=Ua;have hx:ps[at_]?=some ps[at_]:=List.getElem?_eq_getElem am;generalize ps[at_]=p at hx;obtain⟨b0,b1,b2⟩:=hp.cell at_ p hx;have hpd:=aw.all at_ p hx;rw [Jrn hx] at hR;have nN:=fun w=>Jsq op f w;have hti:(at_:Int)<(ps.length:Int):=Ua;have pP:ps.length<=601:=Ua;have eO:=Lib.hid ai;have HP:=Lib.hid hp;have kc:=Lib.hid aw;have HR:=Lib.hid hR;clear hp aw hR hx ai;unfold frV at *
 go_enter Tryz.func60,Tryz.ntmps60
 go_upto_region 4 with (first|(go_at_call 89;refine(aB _).mono ?_;rintro r w1 ⟨rfl,ac⟩;have ⟨ak,af⟩:=aft ac;(try simp at af)))
 refine Jo fun W1 bt=>?_;have eM:Below W.heap.size W W1:=G4;have q0:W1.cell? ⟨W.heap.size,0,none⟩=some (.int .i64 op):=Uds;have q1:W1.cell? ⟨W.heap.size,1,none⟩=some (.int .i32 N):=Uds;have k0:W1.cell? ⟨W.heap.size+1,0,none⟩=some (.int .i64 f.s):=Uds;have k1:W1.cell? ⟨W.heap.size+1,1,none⟩=some (.int .i64 f.o):=Uds;have k2:W1.cell? ⟨W.heap.size+1,2,none⟩=some (.int .i64 f.n):=Uds;have k3:W1.cell? ⟨W.heap.size+1,3,none⟩=some (.int .i64 f.i):=Uds;have k4:W1.cell? ⟨W.heap.size+1,4,none⟩=some (.int .i64 f.u):=Uds;have x0:=Ja eM c0;have y0:=Ja eM b0;have y1:=Ja eM b1;have y2:=Ja eM b2;have su:=block_lt_of_cell k0;have hyB:=block_lt_of_cell y0;have hyX:=block_lt_of_cell x0;have hyW:=block_lt_of_cell q0;clear bt aB
 go_cut [10,11] from 19 to 29 (fun x q wx=>Kai W op N f p x q wx)
 case first=>
  have hS:∀w',Below W1.heap.size W1 w'->w'.cell? ⟨X,0,none⟩=some (.slice (some ⟨B,0,none⟩) ps.length ps.length)/\w'.cell? ⟨B,at_ * 3,none⟩=some (.bool p.met)/\w'.cell? ⟨B,at_ * 3+1,none⟩=some (.int .i64 p.d)/\w'.cell? ⟨B,at_ * 3+2,none⟩=some (.int .i64 p.f)/\w'.cell? ⟨W.heap.size,0,none⟩=some (.int .i64 op)/\w'.cell? ⟨W.heap.size+1,0,none⟩=some (.int .i64 f.s)/\w'.cell? ⟨W.heap.size+1,1,none⟩=some (.int .i64 f.o)/\w'.cell? ⟨W.heap.size+1,2,none⟩=some (.int .i64 f.n)/\w'.cell? ⟨W.heap.size+1,3,none⟩=some (.int .i64 f.i)/\w'.cell? ⟨W.heap.size+1,4,none⟩=some (.int .i64 f.u):=fun w' hb=>⟨Ja hb x0,Ja hb y0,Ja hb y1,Ja hb y2,Ja hb q0,Ja hb k0,Ja hb k1,Ja hb k2,Ja hb k3,Ja hb k4⟩;have HS:=Lib.hid hS;have ar:=hS W1.drew (Jh (Below.refl _ _));have Q0:=Lib.hid q0;have Q1:=Lib.hid q1;clear hS x0 y0 y1 y2 q0 q1 k0 k1 k2 k3 k4;refine Kd (fun w'=>w'.cell? ⟨X,0,none⟩=some (.slice (some ⟨B,0,none⟩) ps.length ps.length)/\w'.cell? ⟨B,at_ * 3,none⟩=some (.bool p.met)/\w'.cell? ⟨B,at_ * 3+1,none⟩=some (.int .i64 p.d)/\w'.cell? ⟨B,at_ * 3+2,none⟩=some (.int .i64 p.f)/\w'.cell? ⟨W.heap.size,0,none⟩=some (.int .i64 op)/\w'.cell? ⟨W.heap.size+1,0,none⟩=some (.int .i64 f.s)/\w'.cell? ⟨W.heap.size+1,1,none⟩=some (.int .i64 f.o)/\w'.cell? ⟨W.heap.size+1,2,none⟩=some (.int .i64 f.n)/\w'.cell? ⟨W.heap.size+1,3,none⟩=some (.int .i64 f.i)/\w'.cell? ⟨W.heap.size+1,4,none⟩=some (.int .i64 f.u)) 14 1 Ug Gd ?_;simp only [List.size_toArray,List.length_cons,List.length_nil,Nat.zero_add,Nat.reduceAdd];refine Ji 0 ar ?_;refine Ji 1 ar ?_;refine Ji 2 ar ?_;refine Ji 4 ar ?_;refine Ji 5 ar ?_;refine Ji 6 ar ?_;refine Ji 7 ar ?_;refine Ji 8 ar ?_;refine Ji 9 ar ?_;refine Ji 10 ar ?_;refine Ys fun V0 sM=>?_;have bV0:Below W1.heap.size W1 V0:=by rw [sM];exact Jh (Below.refl _ _)
  clear ar sM;refine Jrr (i:=3) (j:=11) (l:=12) Ug Um Um Um rfl rfl rfl ?_ ?_ ?_
  ·refine Jj fun K hK=>?_;go_simp;refine(nN _).mono ?_;rintro r V1 ⟨rfl,ef⟩;dsimp only;have bV1:Below W1.heap.size W1 V1:=Jd bV0 ef;refine hK _ _ ⟨HS.out _ bV1,?_⟩;clear hK K
   try simp only [Act.put,sa1,sa2,sa3]
   (try replace bQ:=bQ.later ef)
   (try replace bR:=bR.later ef)
   refine Jfe (i:=11) (j:=12) Ug Um Um rfl rfl ?_ ?_
   ·refine Jj fun K hK=>?_;go_simp;refine hK _ _ ⟨HS.out _ (Jc bV1 _),?_⟩;clear hK K
    try simp only [Act.put,sa1,sa2,sa3]
    refine Ys fun V2 hV=>?_;have bV2:Below W1.heap.size W1 V2:=D5;have bQ:AtZ V2 V1.heap.size (.int .i64 0) (.int .i64 0) (.int .i64 0):=V8
    (try have aS:=bR.lt)
    (try replace bR:=bR.later (show Below _ _ V2 by rw [hV];exact Jc (Below.refl _ _) _))
    have gK:W1.heap.size<=V1.heap.size:=bV1.size;clear hV;refine Kb 12 ?_;refine Jj fun K hK=>?_;go_simp;refine hK _ _ ⟨HS.out _ (Jc bV2 _),?_⟩;clear hK K
    try simp only [Act.put,sa1,sa2,sa3]
    refine Ys fun V3 hV=>?_;have bV3:Below W1.heap.size W1 V3:=D6;have bR:AtZ V3 V2.heap.size (.bool false) (.int .i64 0) (.int .i64 0):=V8
    (try have aS:=bQ.lt)
    (try replace bQ:=bQ.later (show Below _ _ V3 by rw [hV];exact Jc (Below.refl _ _) _))
    have qV:W1.heap.size<=V2.heap.size:=bV2.size;clear hV;refine Kb 13 ?_;obtain⟨xc0,xc1,xc2,xf0,xf1,xf2⟩:=id bQ;refine Jj fun K hK=>?_;go_simp;refine hK _ _ ⟨HS.out _ (Qq _ _ _ bV3 gK),?_⟩;clear xc0 xc1 xc2 xf0 xf1 xf2;clear hK K
    try simp only [Act.put,sa1,sa2,sa3]
    refine Ys fun V4 hV=>?_;have bV4:Below W1.heap.size W1 V4:=Fi;have pQ:=bQ.lt
    (try have pR:=bR.lt)
    (try (have ec:=bR.othr bQ (.int .i64 (Ky op)) (.int .i64 (K1 op)) (.int .i64 (Xn op f)) Ua;rw [<-hV] at ec;clear bR;have bR:=ec;clear ec))
    have bW:=bQ.set (.int .i64 (Ky op)) (.int .i64 (K1 op)) (.int .i64 (Xn op f));rw [<-hV] at bW;clear bQ;have bQ:=bW;clear bW;clear hV;refine Kh Ug ?_;obtain⟨pc0,pc1,pc2,pf0,pf1,pf2⟩:=id bR;refine Qx 14 ?_;refine Jj fun K hK=>?_;go_simp;refine hK _ _ ?_;clear hK K
    try simp only [Act.put,sa1,sa2,sa3]
    refine Ki Ug ?_;refine Zc fun V5 gy=>?_;have bV5:Below W1.heap.size W1 V5:=Fh;have pQ:=bQ.lt;have pR:=bR.lt;have io:=bQ.othr bR (.bool p.met) (.int .i64 p.d) (.int .i64 p.f) Ua;have iO:=bR.set (.bool p.met) (.int .i64 p.d) (.int .i64 p.f);rw [<-gy] at io iO;have dd:=Lib.hid io;have df:=Lib.hid iO;clear gy bQ bR io iO pc0 pc1 pc2 pf0 pf1 pf2
    go_wp2_with fail
    go_meet
    case rel=>exact⟨_,_,rfl,rfl,Ua,Ua,dd.out.lt,df.out.lt,dd.out.c0,dd.out.c1,dd.out.c2,df.out.c0,df.out.c1,df.out.c2,Ja bV5 Q0.out,Ja bV5 Q1.out,Jd eM bV5⟩
   ·refine Jj fun K hK=>?_;go_simp;refine hK _ _ ⟨HS.out _ (Jc bV1 _),?_⟩;clear hK K
    try simp only [Act.put,sa1,sa2,sa3]
    refine Ys fun V2 hV=>?_;have bV2:Below W1.heap.size W1 V2:=D5;have bR:AtZ V2 V1.heap.size (.bool false) (.int .i64 0) (.int .i64 0):=V8
    (try have aS:=bQ.lt)
    (try replace bQ:=bQ.later (show Below _ _ V2 by rw [hV];exact Jc (Below.refl _ _) _))
    have qV:W1.heap.size<=V1.heap.size:=bV1.size;clear hV;refine Kb 11 ?_;refine Jj fun K hK=>?_;go_simp;refine hK _ _ ⟨HS.out _ (Jc bV2 _),?_⟩;clear hK K
    try simp only [Act.put,sa1,sa2,sa3]
    refine Ys fun V3 hV=>?_;have bV3:Below W1.heap.size W1 V3:=D6;have bQ:AtZ V3 V2.heap.size (.int .i64 0) (.int .i64 0) (.int .i64 0):=V8
    (try have aS:=bR.lt)
    (try replace bR:=bR.later (show Below _ _ V3 by rw [hV];exact Jc (Below.refl _ _) _))
    have gK:W1.heap.size<=V2.heap.size:=bV2.size;clear hV;refine Kb 13 ?_;obtain⟨xc0,xc1,xc2,xf0,xf1,xf2⟩:=id bQ;refine Jj fun K hK=>?_;go_simp;refine hK _ _ ⟨HS.out _ (Qq _ _ _ bV3 gK),?_⟩;clear xc0 xc1 xc2 xf0 xf1 xf2;clear hK K
    try simp only [Act.put,sa1,sa2,sa3]
    refine Ys fun V4 hV=>?_;have bV4:Below W1.heap.size W1 V4:=Fi;have pQ:=bQ.lt
    (try have pR:=bR.lt)
    (try (have ec:=bR.othr bQ (.int .i64 (Ky op)) (.int .i64 (K1 op)) (.int .i64 (Xn op f)) Ua;rw [<-hV] at ec;clear bR;have bR:=ec;clear ec))
    have bW:=bQ.set (.int .i64 (Ky op)) (.int .i64 (K1 op)) (.int .i64 (Xn op f));rw [<-hV] at bW;clear bQ;have bQ:=bW;clear bW;clear hV;refine Kh Ug ?_;obtain⟨pc0,pc1,pc2,pf0,pf1,pf2⟩:=id bR;refine Qx 14 ?_;refine Jj fun K hK=>?_;go_simp;refine hK _ _ ?_;clear hK K
    try simp only [Act.put,sa1,sa2,sa3]
    refine Ki Ug ?_;refine Zc fun V5 gy=>?_;have bV5:Below W1.heap.size W1 V5:=Fh;have pQ:=bQ.lt;have pR:=bR.lt;have io:=bQ.othr bR (.bool p.met) (.int .i64 p.d) (.int .i64 p.f) Ua;have iO:=bR.set (.bool p.met) (.int .i64 p.d) (.int .i64 p.f);rw [<-gy] at io iO;have dd:=Lib.hid io;have df:=Lib.hid iO;clear gy bQ bR io iO pc0 pc1 pc2 pf0 pf1 pf2
    go_wp2_with fail
    go_meet
    case rel=>exact⟨_,_,rfl,rfl,Ua,Ua,dd.out.lt,df.out.lt,dd.out.c0,dd.out.c1,dd.out.c2,df.out.c0,df.out.c1,df.out.c2,Ja bV5 Q0.out,Ja bV5 Q1.out,Jd eM bV5⟩
  ·refine Jj fun K hK=>?_;go_simp;refine hK _ _ ⟨HS.out _ (Jc bV0 _),?_⟩;clear hK K
   try simp only [Act.put,sa1,sa2,sa3]
   refine Ys fun V1 hV=>?_;have bV1:Below W1.heap.size W1 V1:=by rw [hV];exact Jc bV0 _
   have bQ:AtZ V1 V0.heap.size (.int .i64 0) (.int .i64 0) (.int .i64 0):=V8
   (try have aS:=bR.lt)
   (try replace bR:=bR.later (show Below _ _ V1 by rw [hV];exact Jc (Below.refl _ _) _))
   have gK:W1.heap.size<=V0.heap.size:=bV0.size;clear hV;refine Jfe (i:=3) (j:=12) Ug Um Um rfl rfl ?_ ?_
   ·refine Jj fun K hK=>?_;go_simp;refine(nN _).mono ?_;rintro r V2 ⟨rfl,ef⟩;dsimp only;have bV2:Below W1.heap.size W1 V2:=Jd bV1 ef;refine hK _ _ ⟨HS.out _ bV2,?_⟩;clear hK K
    try simp only [Act.put,sa1,sa2,sa3]
    (try replace bQ:=bQ.later ef)
    (try replace bR:=bR.later ef)
    refine Kb 12 ?_;refine Jj fun K hK=>?_;go_simp;refine hK _ _ ⟨HS.out _ (Jc bV2 _),?_⟩;clear hK K
    try simp only [Act.put,sa1,sa2,sa3]
    refine Ys fun V3 hV=>?_;have bV3:Below W1.heap.size W1 V3:=D6;have bR:AtZ V3 V2.heap.size (.bool false) (.int .i64 0) (.int .i64 0):=V8
    (try have aS:=bQ.lt)
    (try replace bQ:=bQ.later (show Below _ _ V3 by rw [hV];exact Jc (Below.refl _ _) _))
    have qV:W1.heap.size<=V2.heap.size:=bV2.size;clear hV;refine Kb 13 ?_;obtain⟨xc0,xc1,xc2,xf0,xf1,xf2⟩:=id bQ;refine Jj fun K hK=>?_;go_simp;refine hK _ _ ⟨HS.out _ (Qq _ _ _ bV3 gK),?_⟩;clear xc0 xc1 xc2 xf0 xf1 xf2;clear hK K
    try simp only [Act.put,sa1,sa2,sa3]
    refine Ys fun V4 hV=>?_;have bV4:Below W1.heap.size W1 V4:=Fi;have pQ:=bQ.lt
    (try have pR:=bR.lt)
    (try (have ec:=bR.othr bQ (.int .i64 (Ky op)) (.int .i64 (K1 op)) (.int .i64 (Xn op f)) Ua;rw [<-hV] at ec;clear bR;have bR:=ec;clear ec))
    have bW:=bQ.set (.int .i64 (Ky op)) (.int .i64 (K1 op)) (.int .i64 (Xn op f));rw [<-hV] at bW;clear bQ;have bQ:=bW;clear bW;clear hV;refine Kh Ug ?_;obtain⟨pc0,pc1,pc2,pf0,pf1,pf2⟩:=id bR;refine Qx 14 ?_;refine Jj fun K hK=>?_;go_simp;refine hK _ _ ?_;clear hK K
    try simp only [Act.put,sa1,sa2,sa3]
    refine Ki Ug ?_;refine Zc fun V5 gy=>?_;have bV5:Below W1.heap.size W1 V5:=Fh;have pQ:=bQ.lt;have pR:=bR.lt;have io:=bQ.othr bR (.bool p.met) (.int .i64 p.d) (.int .i64 p.f) Ua;have iO:=bR.set (.bool p.met) (.int .i64 p.d) (.int .i64 p.f);rw [<-gy] at io iO;have dd:=Lib.hid io;have df:=Lib.hid iO;clear gy bQ bR io iO pc0 pc1 pc2 pf0 pf1 pf2
    go_wp2_with fail
    go_meet
    case rel=>exact⟨_,_,rfl,rfl,Ua,Ua,dd.out.lt,df.out.lt,dd.out.c0,dd.out.c1,dd.out.c2,df.out.c0,df.out.c1,df.out.c2,Ja bV5 Q0.out,Ja bV5 Q1.out,Jd eM bV5⟩
   ·refine Jj fun K hK=>?_;go_simp;refine hK _ _ ⟨HS.out _ (Jc bV1 _),?_⟩;clear hK K
    try simp only [Act.put,sa1,sa2,sa3]
    refine Ys fun V2 hV=>?_;have bV2:Below W1.heap.size W1 V2:=D5;have bR:AtZ V2 V1.heap.size (.bool false) (.int .i64 0) (.int .i64 0):=V8
    (try have aS:=bQ.lt)
    (try replace bQ:=bQ.later (show Below _ _ V2 by rw [hV];exact Jc (Below.refl _ _) _))
    have qV:W1.heap.size<=V1.heap.size:=bV1.size;clear hV;refine Kb 3 ?_;refine Jj fun K hK=>?_;go_simp;refine(nN _).mono ?_;rintro r V3 ⟨rfl,ef⟩;dsimp only;have bV3:Below W1.heap.size W1 V3:=Jd bV2 ef;refine hK _ _ ⟨HS.out _ bV3,?_⟩;clear hK K
    try simp only [Act.put,sa1,sa2,sa3]
    (try replace bQ:=bQ.later ef)
    (try replace bR:=bR.later ef)
    refine Kb 13 ?_;obtain⟨xc0,xc1,xc2,xf0,xf1,xf2⟩:=id bQ;refine Jj fun K hK=>?_;go_simp;refine hK _ _ ⟨HS.out _ (Qq _ _ _ bV3 gK),?_⟩;clear xc0 xc1 xc2 xf0 xf1 xf2;clear hK K
    try simp only [Act.put,sa1,sa2,sa3]
    refine Ys fun V4 hV=>?_;have bV4:Below W1.heap.size W1 V4:=Fi;have pQ:=bQ.lt
    (try have pR:=bR.lt)
    (try (have ec:=bR.othr bQ (.int .i64 (Ky op)) (.int .i64 (K1 op)) (.int .i64 (Xn op f)) Ua;rw [<-hV] at ec;clear bR;have bR:=ec;clear ec))
    have bW:=bQ.set (.int .i64 (Ky op)) (.int .i64 (K1 op)) (.int .i64 (Xn op f));rw [<-hV] at bW;clear bQ;have bQ:=bW;clear bW;clear hV;refine Kh Ug ?_;obtain⟨pc0,pc1,pc2,pf0,pf1,pf2⟩:=id bR;refine Qx 14 ?_;refine Jj fun K hK=>?_;go_simp;refine hK _ _ ?_;clear hK K
    try simp only [Act.put,sa1,sa2,sa3]
    refine Ki Ug ?_;refine Zc fun V5 gy=>?_;have bV5:Below W1.heap.size W1 V5:=Fh;have pQ:=bQ.lt;have pR:=bR.lt;have io:=bQ.othr bR (.bool p.met) (.int .i64 p.d) (.int .i64 p.f) Ua;have iO:=bR.set (.bool p.met) (.int .i64 p.d) (.int .i64 p.f);rw [<-gy] at io iO;have dd:=Lib.hid io;have df:=Lib.hid iO;clear gy bQ bR io iO pc0 pc1 pc2 pf0 pf1 pf2
    go_wp2_with fail
    go_meet
    case rel=>exact⟨_,_,rfl,rfl,Ua,Ua,dd.out.lt,df.out.lt,dd.out.c0,dd.out.c1,dd.out.c2,df.out.c0,df.out.c1,df.out.c2,Ja bV5 Q0.out,Ja bV5 Q1.out,Jd eM bV5⟩
  ·refine Jj fun K hK=>?_;go_simp;refine hK _ _ ⟨HS.out _ (Jc bV0 _),?_⟩;clear hK K
   try simp only [Act.put,sa1,sa2,sa3]
   refine Ys fun V1 hV=>?_;have bV1:Below W1.heap.size W1 V1:=by rw [hV];exact Jc bV0 _
   have bR:AtZ V1 V0.heap.size (.bool false) (.int .i64 0) (.int .i64 0):=V8
   (try have aS:=bQ.lt)
   (try replace bQ:=bQ.later (show Below _ _ V1 by rw [hV];exact Jc (Below.refl _ _) _))
   have qV:W1.heap.size<=V0.heap.size:=bV0.size;clear hV;refine Jfe (i:=3) (j:=11) Ug Um Um rfl rfl ?_ ?_
   ·refine Jj fun K hK=>?_;go_simp;refine(nN _).mono ?_;rintro r V2 ⟨rfl,ef⟩;dsimp only;have bV2:Below W1.heap.size W1 V2:=Jd bV1 ef;refine hK _ _ ⟨HS.out _ bV2,?_⟩;clear hK K
    try simp only [Act.put,sa1,sa2,sa3]
    (try replace bQ:=bQ.later ef)
    (try replace bR:=bR.later ef)
    refine Kb 11 ?_;refine Jj fun K hK=>?_;go_simp;refine hK _ _ ⟨HS.out _ (Jc bV2 _),?_⟩;clear hK K
    try simp only [Act.put,sa1,sa2,sa3]
    refine Ys fun V3 hV=>?_;have bV3:Below W1.heap.size W1 V3:=D6;have bQ:AtZ V3 V2.heap.size (.int .i64 0) (.int .i64 0) (.int .i64 0):=V8
    (try have aS:=bR.lt)
    (try replace bR:=bR.later (show Below _ _ V3 by rw [hV];exact Jc (Below.refl _ _) _))
    have gK:W1.heap.size<=V2.heap.size:=bV2.size;clear hV;refine Kb 13 ?_;obtain⟨xc0,xc1,xc2,xf0,xf1,xf2⟩:=id bQ;refine Jj fun K hK=>?_;go_simp;refine hK _ _ ⟨HS.out _ (Qq _ _ _ bV3 gK),?_⟩;clear xc0 xc1 xc2 xf0 xf1 xf2;clear hK K
    try simp only [Act.put,sa1,sa2,sa3]
    refine Ys fun V4 hV=>?_;have bV4:Below W1.heap.size W1 V4:=Fi;have pQ:=bQ.lt
    (try have pR:=bR.lt)
    (try (have ec:=bR.othr bQ (.int .i64 (Ky op)) (.int .i64 (K1 op)) (.int .i64 (Xn op f)) Ua;rw [<-hV] at ec;clear bR;have bR:=ec;clear ec))
    have bW:=bQ.set (.int .i64 (Ky op)) (.int .i64 (K1 op)) (.int .i64 (Xn op f));rw [<-hV] at bW;clear bQ;have bQ:=bW;clear bW;clear hV;refine Kh Ug ?_;obtain⟨pc0,pc1,pc2,pf0,pf1,pf2⟩:=id bR;refine Qx 14 ?_;refine Jj fun K hK=>?_;go_simp;refine hK _ _ ?_;clear hK K
    try simp only [Act.put,sa1,sa2,sa3]
    refine Ki Ug ?_;refine Zc fun V5 gy=>?_;have bV5:Below W1.heap.size W1 V5:=Fh;have pQ:=bQ.lt;have pR:=bR.lt;have io:=bQ.othr bR (.bool p.met) (.int .i64 p.d) (.int .i64 p.f) Ua;have iO:=bR.set (.bool p.met) (.int .i64 p.d) (.int .i64 p.f);rw [<-gy] at io iO;have dd:=Lib.hid io;have df:=Lib.hid iO;clear gy bQ bR io iO pc0 pc1 pc2 pf0 pf1 pf2
    go_wp2_with fail
    go_meet
    case rel=>exact⟨_,_,rfl,rfl,Ua,Ua,dd.out.lt,df.out.lt,dd.out.c0,dd.out.c1,dd.out.c2,df.out.c0,df.out.c1,df.out.c2,Ja bV5 Q0.out,Ja bV5 Q1.out,Jd eM bV5⟩
   ·refine Jj fun K hK=>?_;go_simp;refine hK _ _ ⟨HS.out _ (Jc bV1 _),?_⟩;clear hK K
    try simp only [Act.put,sa1,sa2,sa3]
    refine Ys fun V2 hV=>?_;have bV2:Below W1.heap.size W1 V2:=D5;have bQ:AtZ V2 V1.heap.size (.int .i64 0) (.int .i64 0) (.int .i64 0):=V8
    (try have aS:=bR.lt)
    (try replace bR:=bR.later (show Below _ _ V2 by rw [hV];exact Jc (Below.refl _ _) _))
    have gK:W1.heap.size<=V1.heap.size:=bV1.size;clear hV;refine Kb 3 ?_;refine Jj fun K hK=>?_;go_simp;refine(nN _).mono ?_;rintro r V3 ⟨rfl,ef⟩;dsimp only;have bV3:Below W1.heap.size W1 V3:=Jd bV2 ef;refine hK _ _ ⟨HS.out _ bV3,?_⟩;clear hK K
    try simp only [Act.put,sa1,sa2,sa3]
    (try replace bQ:=bQ.later ef)
    (try replace bR:=bR.later ef)
    refine Kb 13 ?_;obtain⟨xc0,xc1,xc2,xf0,xf1,xf2⟩:=id bQ;refine Jj fun K hK=>?_;go_simp;refine hK _ _ ⟨HS.out _ (Qq _ _ _ bV3 gK),?_⟩;clear xc0 xc1 xc2 xf0 xf1 xf2;clear hK K
    try simp only [Act.put,sa1,sa2,sa3]
    refine Ys fun V4 hV=>?_;have bV4:Below W1.heap.size W1 V4:=Fi;have pQ:=bQ.lt
    (try have pR:=bR.lt)
    (try (have ec:=bR.othr bQ (.int .i64 (Ky op)) (.int .i64 (K1 op)) (.int .i64 (Xn op f)) Ua;rw [<-hV] at ec;clear bR;have bR:=ec;clear ec))
    have bW:=bQ.set (.int .i64 (Ky op)) (.int .i64 (K1 op)) (.int .i64 (Xn op f));rw [<-hV] at bW;clear bQ;have bQ:=bW;clear bW;clear hV;refine Kh Ug ?_;obtain⟨pc0,pc1,pc2,pf0,pf1,pf2⟩:=id bR;refine Qx 14 ?_;refine Jj fun K hK=>?_;go_simp;refine hK _ _ ?_;clear hK K
    try simp only [Act.put,sa1,sa2,sa3]
    refine Ki Ug ?_;refine Zc fun V5 gy=>?_;have bV5:Below W1.heap.size W1 V5:=Fh;have pQ:=bQ.lt;have pR:=bR.lt;have io:=bQ.othr bR (.bool p.met) (.int .i64 p.d) (.int .i64 p.f) Ua;have iO:=bR.set (.bool p.met) (.int .i64 p.d) (.int .i64 p.f);rw [<-gy] at io iO;have dd:=Lib.hid io;have df:=Lib.hid iO;clear gy bQ bR io iO pc0 pc1 pc2 pf0 pf1 pf2
    go_wp2_with fail
    go_meet
    case rel=>exact⟨_,_,rfl,rfl,Ua,Ua,dd.out.lt,df.out.lt,dd.out.c0,dd.out.c1,dd.out.c2,df.out.c0,df.out.c1,df.out.c2,Ja bV5 Q0.out,Ja bV5 Q1.out,Jd eM bV5⟩
 case rest=>
  obtain⟨gx,gp,rfl,rfl,zx1,zp1,zx2,zp2,t0,t1,t2,m0,m1,m2,q0,q1,bU⟩:=hcut;have x0:=Ja bU c0;have x1:=Ja bU c1;have fx:=(Jf bU X 1 pO).trans fX;have HPC:=Lib.hid (HP.out.later hB bU);have tkr:=Jjp op;have gvr:=Jj1 op;have hR:=HR.out;clear HR HP nN ac eM y0 y1 y2 k0 k1 k2 k3 k4 b0 b1 b2;generalize Ky op=tk at *;generalize K1 op=gv at *;generalize Xn op f=rm at *;obtain⟨pm,pd,pf⟩:=p;dsimp only at *;obtain⟨lA,js,zb,db,gG⟩:=hpd;have hwN:wrap64 N=N:=by unfold I32 at hN;unfold wrap64;omega
  clear gG
  by_cases hA:0<=rm/\rm<=N
  ·rw [if_pos hA] at hR;have pS:=Lib.hid (show R.1=10 by rw [hR]);obtain⟨hA1,tM⟩:=hA;have dA1:decide (0<=rm)=true:=by simpa using hA1
   have dA2:decide (rm<=N)=true:=by simpa using tM
   clear hR
   go_wp2_with fail
   go_ret;exact Jhi.bel (Jm pS.out.symm) Sv pO bU
  ·have xJ:rm<0\/N<rm:=Ua;rw [if_neg hA] at hR;clear hA;have HRH:=Lib.hid hR;clear hR
   go_upto_region 6 with fail
   go_cut [38] from 39 to 49 (fun s wx=>s = .bool false/\wx=wc)
   case first=>
    rcases xJ with xJ|xJ
    ·go_wp2_with fail
     go_meet
     case rel=>exact⟨rfl,rfl⟩
    ·by_cases h0:0<=rm
     ·have dA2:¬rm<=N:=Ua
      go_wp2_with fail
      go_meet
      case rel=>exact⟨rfl,rfl⟩
     ·go_wp2_with fail
      go_meet
      case rel=>exact⟨rfl,rfl⟩
   case rest=>
    obtain⟨rfl,rfl⟩:=hcut;have hR:=HRH.out;clear xJ HRH t2
    cases pm
    ·rw [if_pos rfl] at hR;have pS:=Lib.hid (show R.1=13 by rw [hR]);clear hR
     go_wp2_with fail
     go_ret;exact Jhi.bel (Jm pS.out.symm) Sv pO bU
    rw [if_neg Ux] at hR
    by_cases dr:pd<tk
    ·rw [if_pos (.inl dr)] at hR;exact Ucc
    by_cases dk:16<pd-tk+gv
    ·rw [if_pos (.inr dk)] at hR;exact Ucc
    rw [if_neg Ua] at hR;have hd:0<=pd-tk+gv/\pd-tk+gv<=16:=Ua;have sN:=Lib.hid hR;clear hR;have hyX:=block_lt_of_cell x0
    go_upto_region 13 with fail
    refine Jo fun V hV=>?_;have mH:(if dep<pd-tk+gv then pd-tk+gv else dep)=max dep (pd-tk+gv):=Ua;rw [mH] at hV ⊢
    have jQ:Jl4 X B W V (max dep (pd-tk+gv)):=by
     rw [hV];exact⟨(J6.bel bU).setCell (.inr rfl) _ _,(J5 _ _ _ _ _ Ux).trans (Jg bU _ _ pO),World.cell?_setCell_same _ _ _ x1,(J5 _ _ _ _ _ Ux).trans (Jg bU _ _ pO),fun o=>(World.frozen?_setCell ..).trans (Jf bU _ _ pO)⟩
    have zc:Zv V B ps:=by rw [hV];exact HPC.out.blk jt _
    have v0:V.cell? ⟨X,0,none⟩=some (.slice (some ⟨B,0,none⟩) ps.length ps.length):=by rw [hV,J5 _ _ _ _ _ Ux];exact x0
    have vm:V.cell? ⟨gp,2,none⟩=some (.int .i64 pf):=by rw [hV,Qm _ _ _ _ _ _ Ua];exact m2
    have vq0:V.cell? ⟨W.heap.size,0,none⟩=some (.int .i64 op):=by rw [hV,Qm _ _ _ _ _ _ Ua];exact q0
    have vq1:V.cell? ⟨W.heap.size,1,none⟩=some (.int .i32 N):=by rw [hV,Qm _ _ _ _ _ _ Ua];exact q1
    have rB:B<V.heap.size:=by have:=jQ.k.size;omega
    have kM:=block_lt_of_cell v0;clear hV mH x0 x1 fx t0 t1 m0 m1 m2 q0 q1 HPC dr dk c0 c1 fX;have HV:=Lib.hid jQ;have wS:=Lib.hid zc;clear jQ zc;generalize pd-tk+gv=d at *;generalize gI:max dep d=mx at *;clear gI;have sO:=fun(W:World) (ps':List Pl) (j:Nat) hc hp hB wR ai gG=>Jws X B ps' j d (pf+1) W jt hc hp hB wR ai gG;have mY:=Lib.hid sO;clear sO
    by_cases bM:op=10
    ·have t10:(op == 10)=true:=Fb;have t10n:(op != 10)=false:=Fb;have uy:=Jpw HRT.out (.inl bM);obtain⟨hN0,hN6⟩:=uy;have hR:=sN.out
     by_cases hJ:(ps.length:Int)<=(at_:Int)+1+N
     ·rw [if_pos ⟨.inl bM,hJ⟩] at hR;have hY:=Lib.hid (show R.1=11 by rw [hR]);have dJ:decide ((ps.length:Int)<=(at_:Int)+1+N)=true:=by simpa using hJ
      clear hR bM sN hJ;exact Ubo
     rw [if_neg Ua,if_pos bM] at hR;dsimp only at hR;rw [if_pos (.inl bM)] at hR;have dJ:decide ((ps.length:Int)<=(at_:Int)+1+N)=false:=by simpa using hJ
     obtain⟨j,hj⟩:∃j:Nat,j=((at_:Int)+1+N).toNat:=⟨_,rfl⟩;rw [<-hj] at hR;have mX:j<ps.length:=Ua;have jO:(j:Int)=(at_:Int)+1+N:=Ua;clear bM sN hj
     go_upto_region 14 with fail
     go_quiet (fail)
     go_upto_region 16 with fail
     refine Jo fun V2 bz=>?_;have bK:Below V.heap.size V V2:=Sk;have w0:=Ja bK v0;have wm:=Ja bK vm;have wq0:=Ja bK vq0;have wq1:=Ja bK vq1;have bL:=Lib.hid (HV.out.step kM jt (J6.bel bK));have zd:=Lib.hid (wS.out.later rB bK);have ke:=block_lt_of_cell w0;have mi:B<V2.heap.size:=Nat.lt_of_lt_of_le rB bK.size;clear bz bK v0 vm vq0 vq1 HV wS rB kM;have ak:=mY.out V2 ps j w0 zd.out mi mX pP (fun p hp=>(kc.out.all _ p hp).2.2.2.2);rw [jO] at ak;clear jO
     cases fG:Ja5 ps j d (pf+1) with
     | none=>
      rw [fG] at hR ak;have hY:=Lib.hid (show R.1=12 by rw [hR]);clear hR fG
      go_wp2_with (go_at_call 91;refine ak.mono ?_;rintro r V3 ⟨rfl,ip,dU⟩)
      go_ret;exact(bL.out.step ke jt dU).done (Jm hY.out.symm) (fun h=>absurd (hY.out.symm.trans h) Ux)
     | some ps1=>
      rw [fG] at hR ak;dsimp only at hR;have hY:=Lib.hid hR;clear hR fG
      go_wp2_with (go_at_call 91;refine ak.mono ?_;rintro r V3 ⟨rfl,ip,dU⟩)
      go_ret;exact(bL.out.step ke jt dU).done (Jm (by rw [hY.out])) (fun _=>by rw [hY.out];exact⟨ip,rfl⟩)
    by_cases gh:op=11
    ·have t10:(op == 10)=false:=Fb;have t10n:(op != 10)=true:=Fb;have t11:(op == 11)=true:=Sy;have uy:=Jpw HRT.out (.inr gh);obtain⟨hN0,hN6⟩:=uy;have hR:=sN.out
     by_cases hJ:(ps.length:Int)<=(at_:Int)+1+N
     ·rw [if_pos ⟨.inr gh,hJ⟩] at hR;have hY:=Lib.hid (show R.1=11 by rw [hR]);have dJ:decide ((ps.length:Int)<=(at_:Int)+1+N)=true:=by simpa using hJ
      clear hR bM gh sN hJ;exact Ubo
     rw [if_neg Ua,if_neg bM] at hR;have dJ:decide ((ps.length:Int)<=(at_:Int)+1+N)=false:=by simpa using hJ
     obtain⟨j,hj⟩:∃j:Nat,j=((at_:Int)+1+N).toNat:=⟨_,rfl⟩;rw [<-hj] at hR;have mX:j<ps.length:=Ua;have jO:(j:Int)=(at_:Int)+1+N:=Ua;have hj11:op=10\/op=11:= .inr gh;clear bM gh sN hj
     go_upto_region 14 with fail
     go_quiet (fail)
     go_upto_region 16 with fail
     refine Jo fun V2 bz=>?_;have bK:Below V.heap.size V V2:=Sk;have w0:=Ja bK v0;have wm:=Ja bK vm;have wq0:=Ja bK vq0;have wq1:=Ja bK vq1;have bL:=Lib.hid (HV.out.step kM jt (J6.bel bK));have zd:=Lib.hid (wS.out.later rB bK);have ke:=block_lt_of_cell w0;have mi:B<V2.heap.size:=Nat.lt_of_lt_of_le rB bK.size;clear bz bK v0 vm vq0 vq1 HV wS rB kM;have ak:=mY.out V2 ps (at_+1) w0 zd.out mi (by have:=eO.out;omega) pP (fun p hp=>(kc.out.all _ p hp).2.2.2.2);rw [show((at_+1:Nat):Int)=(at_:Int)+1 by omega] at ak
     cases fG:Ja5 ps (at_+1) d (pf+1) with
     | none=>
      rw [fG] at hR ak;have hY:=Lib.hid (show R.1=12 by rw [hR]);clear hR fG jO
      go_wp2_with (go_at_call 91;refine ak.mono ?_;rintro r V3 ⟨rfl,ip,dU⟩)
      go_ret;exact(bL.out.step ke jt dU).done (Jm hY.out.symm) (fun h=>absurd (hY.out.symm.trans h) Ux)
     | some ps1=>
      have uz:=(kc.out.more (Nat.le_succ at_)).come fG hd ⟨Ua,Ua⟩;have bI:=Jv1 fG;rw [fG] at hR ak;dsimp only at hR;rw [if_pos hj11] at hR;have dm:=fun V3 hx hp hb=>mY.out V3 ps1 j hx hp hb Ua Ua (fun p hp=>(uz.all _ p hp).2.2.2.2);rw [jO,bI] at dm;have HOK1:=Lib.hid uz;have gK:gp≠B:=Ua;have hwx:W.heap.size≠B:=Ua;clear jO uz bI fG
      cases nO:Ja5 ps1 j d (pf+1) with
      | none=>
       rw [nO] at hR dm;have hY:=Lib.hid (show R.1=12 by rw [hR]);clear hR nO
       go_wp2_with (first
        | (have hcX:=uA;go_at_call 91;refine(dm _ uA ip cZ).mono ?_;rintro r V4 ⟨rfl,bT,iA⟩)
        | (go_at_call 91;refine ak.mono ?_;rintro r V3 ⟨rfl,ip,dU⟩;have uA:=dU.cell (b:=X) jt w0;have cZ:B<V3.heap.size:=Nat.lt_of_lt_of_le mi dU.size;have wm3:=dU.cell (b:=gp) gK wm;have wq3:=dU.cell (b:=W.heap.size) hwx wq0;have wq4:=dU.cell (b:=W.heap.size) hwx wq1))
       go_ret;exact((bL.out.step ke jt dU).step (block_lt_of_cell uA) jt iA).done (Jm hY.out.symm) (fun h=>absurd (hY.out.symm.trans h) Ux)
      | some ps2=>
       rw [nO] at hR dm;dsimp only at hR;have hY:=Lib.hid hR;clear hR nO
       go_wp2_with (first
        | (have hcX:=uA;go_at_call 91;refine(dm _ uA ip cZ).mono ?_;rintro r V4 ⟨rfl,bT,iA⟩)
        | (go_at_call 91;refine ak.mono ?_;rintro r V3 ⟨rfl,ip,dU⟩;have uA:=dU.cell (b:=X) jt w0;have cZ:B<V3.heap.size:=Nat.lt_of_lt_of_le mi dU.size;have wm3:=dU.cell (b:=gp) gK wm;have wq3:=dU.cell (b:=W.heap.size) hwx wq0;have wq4:=dU.cell (b:=W.heap.size) hwx wq1))
       go_ret;exact((bL.out.step ke jt dU).step (block_lt_of_cell uA) jt iA).done (Jm (by rw [hY.out])) (fun _=>by rw [hY.out];exact⟨bT,rfl⟩)
    ·have t10:(op == 10)=false:=Fb;have t11:(op == 11)=false:=Sy;have t10n:(op != 10)=true:=Fb;have hR:=sN.out;rw [if_neg Ua,if_neg bM] at hR;have hnj:¬(op=10\/op=11):=Ua;clear bM gh sN
     go_upto_region 14 with fail
     go_quiet (fail)
     go_upto_region 16 with fail
     refine Jo fun V2 bz=>?_;have bK:Below V.heap.size V V2:=Sk;have w0:=Ja bK v0;have wm:=Ja bK vm;have wq0:=Ja bK vq0;have wq1:=Ja bK vq1;have bL:=Lib.hid (HV.out.step kM jt (J6.bel bK));have zd:=Lib.hid (wS.out.later rB bK);have ke:=block_lt_of_cell w0;have mi:B<V2.heap.size:=Nat.lt_of_lt_of_le rB bK.size;clear bz bK v0 vm vq0 vq1 HV wS rB kM;have ak:=mY.out V2 ps (at_+1) w0 zd.out mi (by have:=eO.out;omega) pP (fun p hp=>(kc.out.all _ p hp).2.2.2.2);rw [show((at_+1:Nat):Int)=(at_:Int)+1 by omega] at ak
     cases fG:Ja5 ps (at_+1) d (pf+1) with
     | none=>
      rw [fG] at hR ak;have hY:=Lib.hid (show R.1=12 by rw [hR]);clear hR fG
      go_wp2_with (go_at_call 91;refine ak.mono ?_;rintro r V3 ⟨rfl,ip,dU⟩)
      go_ret;exact(bL.out.step ke jt dU).done (Jm hY.out.symm) (fun h=>absurd (hY.out.symm.trans h) Ux)
     | some ps1=>
      rw [fG] at hR ak;dsimp only at hR;rw [if_neg hnj] at hR;have hY:=Lib.hid hR;clear hR fG
      go_wp2_with (go_at_call 91;refine ak.mono ?_;rintro r V3 ⟨rfl,ip,dU⟩)
      go_ret;exact(bL.out.step ke jt dU).done (Jm (by rw [hY.out])) (fun _=>by rw [hY.out];exact⟨ip,rfl⟩)
theorem Jir (W:World) (z:Array Value) (n:Nat) (t:TypeId) (o:Nat) (ho:o<n):(W.alloc (.cells (madeCells z n) t)).cell? ⟨W.heap.size,o,none⟩=some (z[o % z.size]!):=by
 rw [Kw];unfold madeCells;rw [Array.getElem?_map,Array.getElem?_range,if_pos ho];exact Gd
theorem Jy2 (W:World) (n:Nat) (t:TypeId):Zv (W.alloc (.cells (madeCells #[.bool false,.int .i64 0,.int .i64 0] (n * 3)) t)) W.heap.size (List.replicate n Pl.no):=by
 refine⟨fun k p hk=>?_,fun o=>Uq⟩;rw [List.getElem?_replicate] at hk
 split at hk
 ·injection hk with hk;subst hk;refine⟨?_,?_,?_⟩
  ·rw [Jir _ _ _ _ _ Ua];simp only [List.size_toArray,List.length_cons,List.length_nil,show k * 3 % (0+1+1+1)=0 by omega];exact Gd
  ·rw [Jir _ _ _ _ _ Ua];simp only [List.size_toArray,List.length_cons,List.length_nil,show(k * 3+1) % (0+1+1+1)=1 by omega];exact Gd
  ·rw [Jir _ _ _ _ _ Ua];simp only [List.size_toArray,List.length_cons,List.length_nil,show(k * 3+2) % (0+1+1+1)=2 by omega];exact Gd
 ·cases hk
theorem Jr0 (n:Nat):(List.replicate (n+1) Pl.no).set 0 ⟨true,0,0⟩=Jdk n:=by rw [List.replicate_succ];rfl
theorem J3.get {w:World} {l:List (Int×Int)} {A:Option Addr} {cap:Nat} (h:J3 w l A cap) {k:Nat} {x:Int×Int} (hk:l[k]?=some x) :
  ∃b off,A=some ⟨b,off,none⟩/\b<w.heap.size/\w.cell? ⟨b,off+k * 2,none⟩=some (.int .i64 x.1)/\w.cell? ⟨b,off+k * 2+1,none⟩=some (.int .i32 x.2):=by
 have am:=(List.getElem?_eq_some_iff.1 hk).1;obtain⟨b,off,hA,hc⟩:=h.2.2.2 Ua;obtain⟨h1,h2⟩:=Joi l k x hk;have c1:=hc _ _ h1;have c2:=hc _ _ h2;rw [show off+(k * 2+1)=off+k * 2+1 by omega] at c2;exact⟨b,off,hA,block_lt_of_cell c1,c1,c2⟩
structure Jic (w:World) (B n:Nat) (f:Fr) (wr:World):Prop where
 b:Below w.heap.size w wr
 z:w.heap.size+2<=B/\B+2<=wr.heap.size
 k:wr.cell? ⟨w.heap.size,0,none⟩=some (.int .i64 f.s)/\wr.cell? ⟨w.heap.size,1,none⟩=some (.int .i64 f.o)/\wr.cell? ⟨w.heap.size,2,none⟩=some (.int .i64 f.n)/\wr.cell? ⟨w.heap.size,3,none⟩=some (.int .i64 f.i)/\wr.cell? ⟨w.heap.size,4,none⟩=some (.int .i64 f.u)
 r:wr.cell? ⟨w.heap.size+1,0,none⟩=some (.int .i64 0)/\wr.cell? ⟨w.heap.size+1,1,none⟩=some (.int .i64 0)/\wr.frozen? ⟨w.heap.size+1,0,none⟩=false/\wr.frozen? ⟨w.heap.size+1,1,none⟩=false
 x:wr.cell? ⟨B+1,0,none⟩=some (.slice (some ⟨B,0,none⟩) (n+1) (n+1))/\wr.cell? ⟨B+1,2,none⟩=some (.int .i64 0)
 fx:∀o,wr.frozen? ⟨B+1,o,none⟩=false
theorem Jic.later {w:World} {B n:Nat} {f:Fr} {W W':World} (h:Jic w B n f W) (hb:Below W.heap.size W W'):Jic w B n f W':=by
 have hz:=h.z
 exact⟨Jd h.b hb,⟨hz.1,Dx⟩,⟨Ja hb h.k.1,Ja hb h.k.2.1,Ja hb h.k.2.2.1,Ja hb h.k.2.2.2.1,Ja hb h.k.2.2.2.2⟩,
  ⟨Ja hb h.r.1,Ja hb h.r.2.1,(Jf hb _ _ Ua).trans h.r.2.2.1,(Jf hb _ _ Ua).trans h.r.2.2.2⟩,⟨Ja hb h.x.1,Ja hb h.x.2⟩,fun o=>(Jf hb _ _ Ua).trans (h.fx o)⟩
theorem Jic.kept {w:World} {B n:Nat} {f:Fr} {W W':World} (h:Jic w B n f W) (hk:J6 (fun b=>b=B\/b=B+1) W W') (x0:W'.cell? ⟨B+1,0,none⟩=W.cell? ⟨B+1,0,none⟩) (x2:W'.cell? ⟨B+1,2,none⟩=W.cell? ⟨B+1,2,none⟩) (fz:∀o,W'.frozen? ⟨B+1,o,none⟩=W.frozen? ⟨B+1,o,none⟩):Jic w B n f W':=by
 have hz:=h.z;have hw:=h.b.size;have c:=fun(b o:Nat) (v:Value) (hb:¬(b=B\/b=B+1)) hc=>hk.cell (b:=b) (o:=o) (v:=v) hb hc;have fr:=fun(b o:Nat) (hl:b<W.heap.size) (hb:¬(b=B\/b=B+1))=>World.frozen?_of_block (a:=⟨b,o,none⟩) (hk.block b hl hb)
 exact⟨hk.below h.b (fun j hj=>Ua),⟨hz.1,by have:=hk.size;omega⟩,⟨c _ _ _ Ua h.k.1,c _ _ _ Ua h.k.2.1,c _ _ _ Ua h.k.2.2.1,c _ _ _ Ua h.k.2.2.2.1,c _ _ _ Ua h.k.2.2.2.2⟩,
  ⟨c _ _ _ Ua h.r.1,c _ _ _ Ua h.r.2.1,(fr _ _ Ua Ua).trans h.r.2.2.1,(fr _ _ Ua Ua).trans h.r.2.2.2⟩,⟨x0.trans h.x.1,x2.trans h.x.2⟩,fun o=>(fz o).trans (h.fx o)⟩
def Jk7 (J:(Int×Int)×Int×Int):Value:= .tuple #[.agg #[.int .i64 J.1.1,.int .i64 J.1.2],.int .i64 J.2.1,.int .i64 J.2.2]
theorem Jmz (c:List (Int×Int)) (A:Option Addr) (cap:Nat) (f:Fr) (w:World) (hc:J3 w c A cap) (hN:∀i∈c,I32 i.2) :
  Calls Tryz.prog 35 #[.slice A c.length cap,frV f] w fun r w'=>r = .returned (Jk7 (Yi c f))/\Below w.heap.size w w':=by
 have fq:=fun W=>Jt4 f W;obtain⟨J,hJ⟩:∃J,J=Yi c f:=⟨_,rfl⟩;rw [<-hJ];unfold Yi at hJ;have bO:=hc.1;have fG:=hc.2.1;unfold maxLen at fG;unfold Jk7
 by_cases hg:f.good=false
 ·rw [if_pos hg] at hJ;rw [hg] at fq;simp only [Bool.false_eq_true,if_false] at fq;subst hJ;unfold frV at *;clear hg hN hc
  go_enter Tryz.func35,Tryz.ntmps35
  go_wp2_with (first|(go_at_call 59;refine(fq _).mono ?_;rintro r w1 ⟨rfl,ac⟩;have af:w.heap.size+2<=w1.heap.size:=V9;have g0:w1.cell? ⟨w.heap.size+1,0,none⟩=some (.int .i64 0):=Ja ac Uq;have g1:w1.cell? ⟨w.heap.size+1,1,none⟩=some (.int .i64 0):=Ja ac Uq;have f0:w1.frozen? ⟨w.heap.size+1,0,none⟩=false:=(Jf ac _ _ Ul).trans Uq;have f1:w1.frozen? ⟨w.heap.size+1,1,none⟩=false:=(Jf ac _ _ Ul).trans Uq;have aC:Below w.heap.size w w1:=Jb))
  refine bodyPost_ret (v:= .tuple #[.agg #[.int .i64 0,.int .i64 0],.int .i64 1,.int .i64 0]) L4 rfl ⟨rfl,?_⟩;exact Ub0
 rw [if_neg hg] at hJ;rw [show f.good=true by simpa using hg] at fq;simp only [if_true] at fq;clear hg
 by_cases dP:600<c.length
 ·rw [if_pos dP] at hJ;subst hJ;have tb:(600:Int)<(c.length:Int):=Ua;unfold frV at *;clear hN hc
  go_enter Tryz.func35,Tryz.ntmps35
  go_wp2_with (first|(go_at_call 59;refine(fq _).mono ?_;rintro r w1 ⟨rfl,ac⟩;have af:w.heap.size+2<=w1.heap.size:=V9;have g0:w1.cell? ⟨w.heap.size+1,0,none⟩=some (.int .i64 0):=Ja ac Uq;have g1:w1.cell? ⟨w.heap.size+1,1,none⟩=some (.int .i64 0):=Ja ac Uq;have f0:w1.frozen? ⟨w.heap.size+1,0,none⟩=false:=(Jf ac _ _ Ul).trans Uq;have f1:w1.frozen? ⟨w.heap.size+1,1,none⟩=false:=(Jf ac _ _ Ul).trans Uq;have aC:Below w.heap.size w w1:=Jb))
  refine bodyPost_ret (v:= .tuple #[.agg #[.int .i64 0,.int .i64 0],.int .i64 3,.int .i64 0]) L4 rfl ⟨rfl,?_⟩;exact Ub0
 rw [if_neg dP] at hJ;have tb:¬(600:Int)<(c.length:Int):=Ua;have HC:=Lib.hid hc;have HN:=Lib.hid hN;have HJ:=Lib.hid hJ;clear hc hN hJ;have jH:=fun W:World=>run_make (P:=Tryz.prog) W 133 137 (Tryz.prog.info? 137).get! (.agg #[.bool false,.int .i64 0,.int .i64 0]) Tryz.underlying133 Ug Ug .i64 .i64 ((c.length:Int)+1) ((c.length:Int)+1) Ua Ua (by rw [show(Tryz.prog.info? 137).get!.bytes=24 by kernel_rfl];omega) Ua;rw [show(Tryz.prog.info? 137).get!.size=3 by kernel_rfl] at jH;simp only [show((c.length:Int)+1).toNat=c.length+1 by omega] at jH;unfold frV at *
 go_enter Tryz.func35,Tryz.ntmps35
 go_upto_region 7 with (first|(go_at_call 59;refine(fq _).mono ?_;rintro r w1 ⟨rfl,ac⟩;have af:w.heap.size+2<=w1.heap.size:=V9;have g0:w1.cell? ⟨w.heap.size+1,0,none⟩=some (.int .i64 0):=Ja ac Uq;have g1:w1.cell? ⟨w.heap.size+1,1,none⟩=some (.int .i64 0):=Ja ac Uq;have f0:w1.frozen? ⟨w.heap.size+1,0,none⟩=false:=(Jf ac _ _ Ul).trans Uq;have f1:w1.frozen? ⟨w.heap.size+1,1,none⟩=false:=(Jf ac _ _ Ul).trans Uq;have aC:Below w.heap.size w w1:=Jb))
 refine Jo fun V hV=>?_;have bK:Below w1.heap.size w1 V:=Mv;have dZ:=Jd aC bK;have hpV:Zv V w1.heap.size (List.replicate (c.length+1) Pl.no):=by rw [hV];exact(Jy2 w1 (c.length+1) 137).later Ul (Jc (Below.refl _ _) _)
 have x0:V.cell? ⟨w1.heap.size+1,0,none⟩=some (.slice (some ⟨w1.heap.size,0,none⟩) (c.length+1) (c.length+1)):=U3;have x1:V.cell? ⟨w1.heap.size+1,1,none⟩=some (.int .i64 0):=U3;have x2:V.cell? ⟨w1.heap.size+1,2,none⟩=some (.int .i64 0):=U3;have fx:∀o,V.frozen? ⟨w1.heap.size+1,o,none⟩=false:=by intro o;rw [hV];go_simp
 have k0:V.cell? ⟨w.heap.size,0,none⟩=some (.int .i64 f.s):=Ja bK (Ja ac Uq);have k1:V.cell? ⟨w.heap.size,1,none⟩=some (.int .i64 f.o):=Ja bK (Ja ac Uq);have k2:V.cell? ⟨w.heap.size,2,none⟩=some (.int .i64 f.n):=Ja bK (Ja ac Uq);have k3:V.cell? ⟨w.heap.size,3,none⟩=some (.int .i64 f.i):=Ja bK (Ja ac Uq);have k4:V.cell? ⟨w.heap.size,4,none⟩=some (.int .i64 f.u):=Ja bK (Ja ac Uq);have xe:(List.replicate (c.length+1) Pl.no)[0]?=some Pl.no:=by rw [List.replicate_succ];rfl
 obtain⟨p0,p1,p2⟩:=hpV.cell 0 Pl.no xe;have hfp:=hpV.fz 0;have mQ:w1.heap.size+2<=V.heap.size:=Sc;have zc:=Lib.hid hpV;clear hV hpV jH
 go_wp2_with fail
 refine Jo fun V2 bz=>?_
 have dS:Zv V2 w1.heap.size (Jdk c.length):=by
  rw [bz,<-Jr0];exact zc.out.set (p:=⟨true,0,0⟩) (fun o ho=>J5 _ _ _ _ _ Ua) (World.cell?_setCell_same _ _ _ p0) ((J5 _ _ _ _ _ Ux).trans p1) ((J5 _ _ _ _ _ Ux).trans p2) (fun o=>World.frozen?_setCell ..)
 have aq:Below w.heap.size w V2:=by rw [bz];exact Below.setCell dZ (show w.heap.size<=w1.heap.size by omega) _
 have ze:w1.heap.size+2<=V2.heap.size:=by rw [bz];simpa using mQ
 have x0':V2.cell? ⟨w1.heap.size+1,0,none⟩=some (.slice (some ⟨w1.heap.size,0,none⟩) (c.length+1) (c.length+1)):=by rw [bz,Qm _ _ _ _ _ _ Ua];exact x0
 have x1':V2.cell? ⟨w1.heap.size+1,1,none⟩=some (.int .i64 0):=by rw [bz,Qm _ _ _ _ _ _ Ua];exact x1
 have x2':V2.cell? ⟨w1.heap.size+1,2,none⟩=some (.int .i64 0):=by rw [bz,Qm _ _ _ _ _ _ Ua];exact x2
 have fx':∀o,V2.frozen? ⟨w1.heap.size+1,o,none⟩=false:=fun o=>by rw [bz,World.frozen?_setCell];exact fx o
 have iP:J6 (fun b=>b=w1.heap.size\/b=w1.heap.size+1) V V2:=by rw [bz];exact(J6.refl V).setCell (.inl rfl) _ _
 have k0':=iP.cell (b:=w.heap.size) Ua k0;have k1':=iP.cell (b:=w.heap.size) Ua k1;have k2':=iP.cell (b:=w.heap.size) Ua k2;have k3':=iP.cell (b:=w.heap.size) Ua k3;have k4':=iP.cell (b:=w.heap.size) Ua k4;have r0':=iP.cell (b:=w.heap.size+1) Ua (Ja bK g0);have r1':=iP.cell (b:=w.heap.size+1) Ua (Ja bK g1);have s0':V2.frozen? ⟨w.heap.size+1,0,none⟩=false:=by rw [bz,World.frozen?_setCell];exact(Jf bK _ _ Ua).trans f0
 have s1':V2.frozen? ⟨w.heap.size+1,1,none⟩=false:=by rw [bz,World.frozen?_setCell];exact(Jf bK _ _ Ua).trans f1
 have cP:Jic w w1.heap.size c.length f V2:=⟨aq,⟨Ua,ze⟩,⟨k0',k1',k2',k3',k4'⟩,⟨r0',r1',s0',s1'⟩,⟨x0',x2'⟩,fx'⟩;have cJ:=Lib.hid cP;have jW:=Lib.hid dS;clear cP dS bz x0 x1 x2 fx k0 k1 k2 k3 k4 p0 p1 p2 hfp zc iP xe g0 g1 f0 f1 bK dZ ac k0' k1' k2' k3' k4' r0' r1' s0' s1' x0' x2' fx' aq ze mQ aC fq;generalize w1.heap.size=B at *
 go_loopw [37] (fun i wr=>∃(k:Nat) (ps:List Pl) (dep:Int),k<=c.length/\i = .int .i64 k/\Hid (Jaa k c.length dep ps)/\Hid (goJ f c.length k (c.drop k) ps dep=J)/\Hid (Zv wr B ps)/\wr.cell? ⟨B+1,1,none⟩=some (.int .i64 dep)/\Hid (Jic w B c.length f wr)) (fun i _=>c.length-(intOf i).toNat)
 case atStart=>exact⟨0,Jdk c.length,0,Nat.zero_le _,rfl,Lib.hid (Jaa.start _),Lib.hid HJ.out.symm,jW,x1',cJ⟩
 case round=>
  obtain⟨k,ps,dep,hk,rfl,aw,zg,dS,x1,cP⟩:=hrel;obtain⟨ab,⟨hz1',zh⟩,⟨k0,k1,k2,k3,k4⟩,⟨r0,r1,s0,s1⟩,⟨x0,x2⟩,fx⟩:=id cP.out;have lu:w.heap.size<wr.heap.size:=Ua;have ud:w.heap.size+1<wr.heap.size:=Ua;have hyB:B<wr.heap.size:=Ua;have hyB1:B+1<wr.heap.size:=Ua
  by_cases am:k<c.length
  ·have hx:c[k]?=some c[k]:=List.getElem?_eq_getElem am;have hdr:c.drop k=c[k] :: c.drop (k+1):=List.drop_eq_getElem_cons am;have hI:=HN.out c[k] (List.getElem_mem am);generalize c[k]=x at hx hdr hI;obtain⟨op,N⟩:=x;obtain⟨b,off,hA,aH,y0,y1⟩:=(HC.out.later ab).get hx;subst hA;have hg:=zg.out;rw [hdr,goJ] at hg;have ai:=aw.out.len;have uB:=fun W' (hb:Below wr.heap.size wr W')=>Jp0 (B+1) B ps dep k c.length op N f W' Ua (by rw [ai];exact Ja hb x0) (Ja hb x1) ((Jf hb _ _ Ua).trans (fx 1)) (dS.out.later Ua hb) Dx aw.out am Ua hI;have uC:=aw.out.one (f:=f) (at_:=k) (i:=(op,N));dsimp only at y0 y1;unfold frV at uB;generalize Jct f k (op,N) ps dep=res at *;have zi:=Lib.hid uB;clear uB hx hdr ai hI
   by_cases he:res.1=0
   ·rw [if_neg Ua] at hg;obtain⟨e,ps2,dep2⟩:=res;dsimp only at *;subst he;have HG:=Lib.hid hg;have HOK2:=Lib.hid (uC rfl);clear zg HJ jW cJ aw uC dS x1' hg
    go_wp2_with (go_at_call 60;go_loud (refine(zi.out _ Jb).mono ?_;rintro r w3 ⟨rfl,ip,dU,hx3,hx4,fe⟩;have hj3:=(cP.out.later (show Below wr.heap.size wr _ from Jb)).kept dU hx3 hx4 fe;obtain⟨bT,wT⟩:=ip rfl))
    go_roundw
    case rel=>exact⟨k+1,ps2,dep2,Ua,Up,HOK2,HG,Lib.hid bT,wT,Lib.hid hj3⟩
    case measure=>simp [intOf];omega
   ·rw [if_pos he] at hg;subst hg;have HE:=Lib.hid he;have te:(res.1 != 0)=true:=Ta;clear he zg HJ jW cJ aw uC dS x1'
    go_wp2_with (go_at_call 60;go_loud (refine(zi.out _ Jb).mono ?_;rintro r w3 ⟨rfl,-,dU,hx3,hx4,fe⟩;have hj3:=(cP.out.later (show Below wr.heap.size wr _ from Jb)).kept dU hx3 hx4 fe;obtain⟨en,-,-,⟨r03,r13,s03,s13⟩,-,-⟩:=id hj3))
    refine bodyPost_ret (v:= .tuple #[.agg #[.int .i64 0,.int .i64 0],.int .i64 res.1,.int .i64 k]) L4 rfl ⟨rfl,?_⟩;exact Below.setCell (Below.setCell en (show w.heap.size<=w.heap.size+1 by omega) _) (show w.heap.size<=w.heap.size+1 by omega) _
  ·obtain rfl:k=c.length:=Ua;have hg:=zg.out;rw [List.drop_length,goJ] at hg;have ai:=aw.out.len;have hx:ps[c.length]?=some ps[c.length]:=List.getElem?_eq_getElem Ua;generalize ps[c.length]=p at hx;rw [Jrn hx] at hg;obtain⟨b0,b1,b2⟩:=dS.out.cell c.length p hx;have fx2:=fx 2;clear ai hx zg HJ jW cJ aw dS x1' HC HN
   by_cases hd:p.d=0
   ·rw [if_neg Ua] at hg;subst hg;have td:(p.d != 0)=false:=G9;obtain⟨pm,pd,pf⟩:=p;dsimp only at *;subst hd
    go_wp2_with fail
    refine bodyPost_ret (v:= .tuple #[.agg #[.int .i64 dep,.int .i64 pf],.int .i64 0,.int .i64 0]) L4 rfl ⟨rfl,?_⟩;exact Jc (Below.setCell (Below.setCell (Below.setCell ab (show w.heap.size<=B+1 by omega) _) (show w.heap.size<=w.heap.size+1 by omega) _) (show w.heap.size<=w.heap.size+1 by omega) _) _
   ·rw [if_pos Ua] at hg;subst hg;have td:(p.d != 0)=true:=G9;clear hd
    go_wp2_with fail
    refine bodyPost_ret (v:= .tuple #[.agg #[.int .i64 0,.int .i64 0],.int .i64 12,.int .i64 c.length]) L4 rfl ⟨rfl,?_⟩;exact Jc (Below.setCell (Below.setCell ab (show w.heap.size<=w.heap.size+1 by omega) _) (show w.heap.size<=w.heap.size+1 by omega) _) _
theorem Jv5 {op N:Int} (h:Qj (op,N)=0):1<=op/\op<=11:=by
 unfold Qj at h;dsimp only at h
 by_cases h0:Qp op=0
 ·rw [if_pos h0] at h;exact absurd h Ux
 unfold Qp at h0
 repeat' split at h0
 all_goals omega
theorem Js2 {c:List (Int×Int)} {k:Nat} {x:Int×Int} (h:c[k]?=some x):Ja7 (c.take (k+1))=Ja7 (c.take k) ++ Jdm x:=by
 rw [List.take_add_one,h];exact Js9 _ _
theorem Jjg (c:List (Int×Int)) (A:Option Addr) (cap:Nat) (w:World) (hc:J3 w c A cap) (hl:c.length<=600) (hr:∀i∈c,Qj i=0) (hN:∀i∈c,I32 i.2) :
  Calls Tryz.prog 100 #[.slice A c.length cap] w (Y8 w (Ja7 c)):=by
 unfold Y8;have fG:=hc.2.1;have bO:=hc.1;unfold maxLen at fG;have tb:¬(600:Int)<(c.length:Int):=Ua;have HC:=Lib.hid hc;have HN:=Lib.hid hN;have HRR:=Lib.hid hr;clear hc hN hr
 go_enter Tryz.func100,Tryz.ntmps100
 go_wp2_with fail
 go_loopw [4,14] (fun v i wr=>∃k:Nat,k<=c.length/\i = .int .i64 k/\wr.ownsRow w.heap.size 5 1 v (Ja7 (c.take k)).length (byU (Ja7 (c.take k)))/\Below w.heap.size w wr) (fun _ i _=>c.length-(intOf i).toNat)
 case atStart=>exact⟨0,Nat.zero_le _,rfl,World.ownsRow_nil _ _ _ _,Below.refl _ _⟩
 case round=>
  obtain⟨k,hk,rfl,ae,ab⟩:=hrel;have hz:=ab.size
  by_cases am:k<c.length
  ·have hx:c[k]?=some c[k]:=List.getElem?_eq_getElem am;have hI:=HN.out c[k] (List.getElem_mem am);have hR:=HRR.out c[k] (List.getElem_mem am);generalize c[k]=x at hx hI hR;obtain⟨op,N⟩:=x;obtain⟨b,off,rfl,aH,y0,y1⟩:=(HC.out.later ab).get hx;have aP:=Js2 hx;have bI:=Jit (c.take k);have aD:=Jnq (op,N);rw [List.length_take] at bI;have gl:=fun W=>Js5 op N W hR hI (Jv5 hR);unfold Y8 at gl;have eZ:=Lib.hid aP;dsimp only at y0 y1;generalize Jdm (op,N)=bs at *;generalize dV:Ja7 (c.take k)=ins at *;clear aP hx hI hR dV
   go_wp2_with (first
    | (go_at_call 124;refine(gl _).mono ?_;rintro r w2 ⟨⟨v2,rfl,ao⟩,aq⟩;obtain⟨A2,c2,rfl,aY⟩:=Qc.of_own ao)
    | (at_builtin;go_loud (refine K6 rfl (.tmp 26) (.tmp 27) 98 rfl w.heap.size 5 _ 1 1 Tryz.underlying98 Jgl rfl Ua _ ins.length (byU ins) A2 bs.length c2 (byU bs) rfl (Jy (Js ae) aq) rfl aY.2.2 (Jgm _) Ua Ua Ds ?_;intro v3 w3 aE aM)))
   go_roundw
   case rel=>exact⟨k+1,Ua,Up,by rw [eZ.out,Jeu,List.length_append];exact aE,(Jd ab (Jd (Jc (Below.refl _ _) _) aq)).trans aM⟩
   case measure=>simp [intOf];omega
  ·obtain rfl:k=c.length:=Ua;rw [List.take_length] at ae
   go_wp2_with fail
   go_ret2
   exact⟨⟨_,rfl,ae⟩,ab⟩
end Go.Proofs.YtknfcamdfdfoeaaGreatDoor
