/- Lemmas. -/
import Derived.Test.YtdgjplldlfeolaaGreatDoorZ27
import Derived.Test.YtdgjplldlfeolaaGreatDoorZ01
import Derived.Test.YtdgjplldlfeolaaGreatDoorZ22
import Derived.Test.YtdgjplldlfeolaaGreatDoorZ29
import Derived.Test.YtdgjplldlfeolaaGreatDoorZ28
import Derived.Test.YtdgjplldlfeolaaGreatDoorZ20
import Derived.Deep.RegionLaw
import Derived.Deep.CutRange
set_option linter.unusedVariables false
set_option linter.unusedSimpArgs false
set_option maxRecDepth 100000
set_option maxHeartbeats 64000000
namespace Go.Proofs.YtdgjplldlfeolaaGreatDoor
open Go.RowKit Go.Sort
theorem Jk3 (p:Pr) (a:PrA) (w:World) (hg:Ql w) (hp:Kr w p a) (aw:Ke5 p) (n1:p.ins.length<=1000000) (n2:p.outs.length<=1000000) (n3:p.locals.length<=1000000) (n4:p.eqs.length<=1000000) :
  Calls Tryz.prog 128 #[prV p a] w fun r w'=>r = .returned (fV (Ks p))/\Below w.heap.size w w':=by
 by_cases hO:(J1 p).2=(0,0,0)
 ·exact Jod p a w hg hp aw n1 n2 n3 n4 hO
 ·have h:=Jpz p a w hg hp aw n1 n2 n3 n4 hO;rw [show Ks p=(J1 p).2 by unfold Ks;rw [if_neg hO]];exact h
def Jhi (X B:Nat) (res:Int×List Pl×Int) (W:World) (r:Ending) (w':World):Prop:=
 r = .returned (.int .i64 res.1)/\(res.1=0->Zv w' B res.2.1/\w'.cell? ⟨X,1,none⟩=some (.int .i64 res.2.2))/\J6 (fun b=>b=B\/b=X) W w'/\
 w'.cell? ⟨X,0,none⟩=W.cell? ⟨X,0,none⟩/\w'.cell? ⟨X,2,none⟩=W.cell? ⟨X,2,none⟩/\∀o,w'.frozen? ⟨X,o,none⟩=W.frozen? ⟨X,o,none⟩
theorem Jrn {ps:List Pl} {k:Nat} {p:Pl} (h:ps[k]?=some p):ps.getD k Pl.no=p:=by
 rw [List.getD_eq_getElem?_getD,h];rfl
structure Jl4 (X B:Nat) (W V:World) (m:Int):Prop where
 k:J6 (fun b=>b=B\/b=X) W V
 x0:V.cell? ⟨X,0,none⟩=W.cell? ⟨X,0,none⟩
 x1:V.cell? ⟨X,1,none⟩=some (.int .i64 m)
 x2:V.cell? ⟨X,2,none⟩=W.cell? ⟨X,2,none⟩
 fz:∀o,V.frozen? ⟨X,o,none⟩=W.frozen? ⟨X,o,none⟩
theorem Jea {W V:World} {b:Nat} (h:V.heap[b]?=W.heap[b]?) (o:Nat):V.cell? ⟨b,o,none⟩=W.cell? ⟨b,o,none⟩:=World.cell?_of_block (a:=⟨b,o,none⟩) h
theorem Jl4.step {X B:Nat} {W V V':World} {m:Int} (h:Jl4 X B W V m) (hX:X<V.heap.size) (jt:X≠B) (hk:J6 (fun b=>b=B) V V'):Jl4 X B W V' m:=by
 have hb:=hk.block X hX jt;exact⟨h.k.trans hk fun b _ hb=> .inl hb,(Jea hb 0).trans h.x0,(Jea hb 1).trans h.x1,(Jea hb 2).trans h.x2,fun o=>(World.frozen?_of_block (a:=⟨X,o,none⟩) hb).trans (h.fz o)⟩
theorem Jl4.done {X B:Nat} {res:Int×List Pl×Int} {W w':World} {m:Int} {r:Ending} (h:Jl4 X B W w' m) (hr:r = .returned (.int .i64 res.1)) (hp:res.1=0->Zv w' B res.2.1/\res.2.2=m):Jhi X B res W r w':=
 ⟨hr,fun h0=>⟨(hp h0).1,by rw [(hp h0).2];exact h.x1⟩,h.k,h.x0,h.x2,h.fz⟩
theorem Zv.blk {W:World} {X B o:Nat} {ps:List Pl} (h:Zv W B ps) (hX:X≠B) (u:Value):Zv (W.setCell ⟨X,o,none⟩ u) B ps:=
 ⟨fun k p hk=>by obtain⟨a,b,c⟩:=h.cell k p hk;exact⟨(Qm _ _ _ _ _ _ (Ne.symm hX)).trans a,(Qm _ _ _ _ _ _ (Ne.symm hX)).trans b,(Qm _ _ _ _ _ _ (Ne.symm hX)).trans c⟩,fun o=>(World.frozen?_setCell ..).trans (h.fz o)⟩
theorem Jv1 {ps ps':List Pl} {j:Nat} {d f:Int} (h:Ja5 ps j d f=some ps'):ps'.length=ps.length:=by
 unfold Ja5 at h
 cases hx:ps[j]? with
 | none=>rw [hx] at h;cases h
 | some p=>
  rw [hx] at h;dsimp only at h
  split at h
  ·split at h
   ·injection h with h;rw [<-h,List.length_set]
   ·cases h
  ·injection h with h;rw [<-h,List.length_set]
theorem Jpw {op N:Int} (h:Qj (op,N)=0) (ho:op=10\/op=11):0<=N/\N<=65535:=by
 have hw:Qp op=2:=by unfold Qp;rw [if_neg (by omega),if_pos (by omega)]
 unfold Qj at h;dsimp only at h;rw [hw,if_neg (by decide),if_neg (by decide),if_neg (by omega),if_neg (by omega)] at h
 by_cases h2:N<0\/65535<N
 ·rw [if_pos ⟨rfl,h2⟩] at h;exact absurd h (by decide)
 ·omega
theorem Jhi.bel {X B:Nat} {res:Int×List Pl×Int} {W:World} {r:Ending} {w':World} (hr:r = .returned (.int .i64 res.1)) (h0:res.1≠0) (hX:X<W.heap.size) (hb:Below W.heap.size W w'):Jhi X B res W r w':=
 ⟨hr,fun h=>absurd h h0,J6.bel hb,Jg hb _ _ hX,Jg hb _ _ hX,fun o=>Jf hb X o hX⟩
structure AtZ (V:World) (g:Nat) (u0 u1 u2:Value):Prop where
 c0:V.cell? ⟨g,0,none⟩=some u0
 c1:V.cell? ⟨g,1,none⟩=some u1
 c2:V.cell? ⟨g,2,none⟩=some u2
 f0:V.frozen? ⟨g,0,none⟩=false
 f1:V.frozen? ⟨g,1,none⟩=false
 f2:V.frozen? ⟨g,2,none⟩=false
theorem AtZ.lt {V:World} {g:Nat} {u0 u1 u2:Value} (h:AtZ V g u0 u1 u2):g<V.heap.size:=block_lt_of_cell h.c0
theorem AtZ.later {V V':World} {g:Nat} {u0 u1 u2:Value} (h:AtZ V g u0 u1 u2) (hb:Below V.heap.size V V'):AtZ V' g u0 u1 u2:=
 ⟨Ja hb h.c0,Ja hb h.c1,Ja hb h.c2,(Jf hb _ _ h.lt).trans h.f0,(Jf hb _ _ h.lt).trans h.f1,(Jf hb _ _ h.lt).trans h.f2⟩
theorem AtZ.new (V:World) (u0 u1 u2:Value) (t:TypeId):AtZ (V.alloc (.cells #[u0,u1,u2] t)) V.heap.size u0 u1 u2:=⟨by go_simp,by go_simp,by go_simp,by go_simp,by go_simp,by go_simp⟩
theorem AtZ.set {V:World} {g:Nat} {u0 u1 u2:Value} (h:AtZ V g u0 u1 u2) (v0 v1 v2:Value):AtZ (((V.setCell ⟨g,0,none⟩ v0).setCell ⟨g,1,none⟩ v1).setCell ⟨g,2,none⟩ v2) g v0 v1 v2:=by
 obtain⟨a,b,c⟩:=Jp5 v0 v1 v2 h.c0 h.c1 h.c2;exact⟨a,b,c,(Jev _ _ _ _).trans h.f0,(Jev _ _ _ _).trans h.f1,(Jev _ _ _ _).trans h.f2⟩
theorem AtZ.other {V:World} {g k:Nat} {u0 u1 u2:Value} (h:AtZ V g u0 u1 u2) (v0 v1 v2:Value) (hk:g≠k):AtZ (((V.setCell ⟨k,0,none⟩ v0).setCell ⟨k,1,none⟩ v1).setCell ⟨k,2,none⟩ v2) g u0 u1 u2:=
 ⟨(Qy _ _ _ hk).trans h.c0,(Qy _ _ _ hk).trans h.c1,(Qy _ _ _ hk).trans h.c2,(Jev _ _ _ _).trans h.f0,(Jev _ _ _ _).trans h.f1,(Jev _ _ _ _).trans h.f2⟩
theorem AtZ.othr {V:World} {g k:Nat} {u0 u1 u2 x0 x1 x2:Value} (h:AtZ V g u0 u1 u2) (_:AtZ V k x0 x1 x2) (v0 v1 v2:Value) (hk:g≠k):AtZ (((V.setCell ⟨k,0,none⟩ v0).setCell ⟨k,1,none⟩ v1).setCell ⟨k,2,none⟩ v2) g u0 u1 u2:=h.other v0 v1 v2 hk
def Kai (W:World) (op N:Int) (f:Fr) (p:Pl) (x q:Value) (wx:World):Prop:=
 ∃gx gp,x = .pointer (some ⟨gx,0,none⟩)/\q = .pointer (some ⟨gp,0,none⟩)/\W.heap.size+2<=gx/\W.heap.size+2<=gp/\gx<wx.heap.size/\gp<wx.heap.size/\
  wx.cell? ⟨gx,0,none⟩=some (.int .i64 (Ky op))/\wx.cell? ⟨gx,1,none⟩=some (.int .i64 (Kan op))/\wx.cell? ⟨gx,2,none⟩=some (.int .i64 (Xn op f))/\
  wx.cell? ⟨gp,0,none⟩=some (.bool p.met)/\wx.cell? ⟨gp,1,none⟩=some (.int .i64 p.d)/\wx.cell? ⟨gp,2,none⟩=some (.int .i64 p.f)/\
  wx.cell? ⟨W.heap.size,0,none⟩=some (.int .i64 op)/\wx.cell? ⟨W.heap.size,1,none⟩=some (.int .i32 N)/\Below W.heap.size W wx
theorem Jp0 (X B:Nat) (ps:List Pl) (dep:Int) (at_ n:Nat) (op N:Int) (f:Fr) (W:World) (jt:X≠B) (c0:W.cell? ⟨X,0,none⟩=some (.slice (some ⟨B,0,none⟩) ps.length ps.length)) (c1:W.cell? ⟨X,1,none⟩=some (.int .i64 dep)) (fX:W.frozen? ⟨X,1,none⟩=false)
  (hp:Zv W B ps) (hB:B<W.heap.size) (aw:Jaa at_ n dep ps) (aY:at_<n) (hn:n<=600) (hN:I32 N) :
  Calls Tryz.prog 57 #[.pointer (some ⟨X,0,none⟩),.agg #[.int .i64 op,.int .i32 N],.int .i64 at_,frV f] W (Jhi X B (Jct f at_ (op,N) ps dep) W):=by
 have pO:=block_lt_of_cell c0;obtain⟨R,hR⟩:∃R,R=Jct f at_ (op,N) ps dep:=⟨_,rfl⟩;rw [<-hR];unfold Jct at hR;have aB:=fun w=>Jlr op N w;unfold Jby at aB
 by_cases hr:Qj (op,N)≠0
 ·rw [if_pos hr] at hR;have tq:(Qj (op,N) != 0)=true:=by simpa using hr
  have hR1:R.1=Qj (op,N):=by rw [hR]
  have HR:=Lib.hid hR1;have HRR:=Lib.hid hr;clear hR hr hR1 aw hp;generalize Qj (op,N)=e at *;unfold frV
  go_enter Tryz.func57,Tryz.ntmps57
  go_wp2_with (first|(go_at_call 95;refine mo (aB _) fun w1 ac ak af bV=>?_;(try simp at af)))
  go_ret;exact Jhi.bel (Jm HR.out.symm) (by rw [HR.out];exact HRR.out) pO Jb
 rw [if_neg hr] at hR;have eV:Qj (op,N)=0:=by simpa using hr
 rw [eV] at aB;have HRT:=Lib.hid eV;clear hr eV;have ai:=aw.len;have am:at_<ps.length:=by omega
 have hx:ps[at_]?=some ps[at_]:=List.getElem?_eq_getElem am;generalize ps[at_]=p at hx;obtain⟨b0,b1,b2⟩:=hp.cell at_ p hx;have hpd:=aw.all at_ p hx;rw [Jrn hx] at hR;have nN:=fun w=>Jsq op f w;have hti:(at_:Int)<(ps.length:Int):=by omega
 have pP:ps.length<=601:=by omega
 have eO:=Lib.hid ai;have HP:=Lib.hid hp;have kc:=Lib.hid aw;have HR:=Lib.hid hR;clear hp aw hR hx ai;unfold frV at *
 go_enter Tryz.func57,Tryz.ntmps57
 go_upto_region 4 with (first|(go_at_call 95;refine mo (aB _) fun w1 ac ak af bV=>?_;(try simp at af)))
 refine Jo fun W1 bt=>?_;have eM:Below W.heap.size W W1:=by rw [bt];exact Jb
 have q0:W1.cell? ⟨W.heap.size,0,none⟩=some (.int .i64 op):=by rw [bt];exact Ja ac (by go_simp)
 have q1:W1.cell? ⟨W.heap.size,1,none⟩=some (.int .i32 N):=by rw [bt];exact Ja ac (by go_simp)
 have k0:W1.cell? ⟨W.heap.size+1,0,none⟩=some (.int .i64 f.s):=by rw [bt];exact Ja ac (by go_simp)
 have k1:W1.cell? ⟨W.heap.size+1,1,none⟩=some (.int .i64 f.o):=by rw [bt];exact Ja ac (by go_simp)
 have k2:W1.cell? ⟨W.heap.size+1,2,none⟩=some (.int .i64 f.n):=by rw [bt];exact Ja ac (by go_simp)
 have k3:W1.cell? ⟨W.heap.size+1,3,none⟩=some (.int .i64 f.i):=by rw [bt];exact Ja ac (by go_simp)
 have k4:W1.cell? ⟨W.heap.size+1,4,none⟩=some (.int .i64 f.u):=by rw [bt];exact Ja ac (by go_simp)
 have x0:=Ja eM c0;have y0:=Ja eM b0;have y1:=Ja eM b1;have y2:=Ja eM b2;have su:=block_lt_of_cell k0;have hyB:=block_lt_of_cell y0;have hyX:=block_lt_of_cell x0;have hyW:=block_lt_of_cell q0;clear bt aB
 go_cut [10,11] from 19 to 29 (fun x q wx=>Kai W op N f p x q wx)
 case first=>
  have hS:∀w',Below W1.heap.size W1 w'->w'.cell? ⟨X,0,none⟩=some (.slice (some ⟨B,0,none⟩) ps.length ps.length)/\w'.cell? ⟨B,at_ * 3,none⟩=some (.bool p.met)/\w'.cell? ⟨B,at_ * 3+1,none⟩=some (.int .i64 p.d)/\w'.cell? ⟨B,at_ * 3+2,none⟩=some (.int .i64 p.f)/\w'.cell? ⟨W.heap.size,0,none⟩=some (.int .i64 op)/\w'.cell? ⟨W.heap.size+1,0,none⟩=some (.int .i64 f.s)/\w'.cell? ⟨W.heap.size+1,1,none⟩=some (.int .i64 f.o)/\w'.cell? ⟨W.heap.size+1,2,none⟩=some (.int .i64 f.n)/\w'.cell? ⟨W.heap.size+1,3,none⟩=some (.int .i64 f.i)/\w'.cell? ⟨W.heap.size+1,4,none⟩=some (.int .i64 f.u):=fun w' hb=>⟨Ja hb x0,Ja hb y0,Ja hb y1,Ja hb y2,Ja hb q0,Ja hb k0,Ja hb k1,Ja hb k2,Ja hb k3,Ja hb k4⟩;have HS:=Lib.hid hS;have ar:=hS W1.drew (Jh (Below.refl _ _));have Q0:=Lib.hid q0;have Q1:=Lib.hid q1;clear hS x0 y0 y1 y2 q0 q1 k0 k1 k2 k3 k4;refine Kd (fun w'=>w'.cell? ⟨X,0,none⟩=some (.slice (some ⟨B,0,none⟩) ps.length ps.length)/\w'.cell? ⟨B,at_ * 3,none⟩=some (.bool p.met)/\w'.cell? ⟨B,at_ * 3+1,none⟩=some (.int .i64 p.d)/\w'.cell? ⟨B,at_ * 3+2,none⟩=some (.int .i64 p.f)/\w'.cell? ⟨W.heap.size,0,none⟩=some (.int .i64 op)/\w'.cell? ⟨W.heap.size+1,0,none⟩=some (.int .i64 f.s)/\w'.cell? ⟨W.heap.size+1,1,none⟩=some (.int .i64 f.o)/\w'.cell? ⟨W.heap.size+1,2,none⟩=some (.int .i64 f.n)/\w'.cell? ⟨W.heap.size+1,3,none⟩=some (.int .i64 f.i)/\w'.cell? ⟨W.heap.size+1,4,none⟩=some (.int .i64 f.u)) 14 1 (by kernel_rfl) (by rfl) ?_;simp only [List.size_toArray,List.length_cons,List.length_nil,Nat.zero_add,Nat.reduceAdd];refine Ji 0 ar ?_;refine Ji 1 ar ?_;refine Ji 2 ar ?_;refine Ji 4 ar ?_;refine Ji 5 ar ?_;refine Ji 6 ar ?_;refine Ji 7 ar ?_;refine Ji 8 ar ?_;refine Ji 9 ar ?_;refine Ji 10 ar ?_;refine Ys fun V0 sM=>?_;have bV0:Below W1.heap.size W1 V0:=by rw [sM];exact Jh (Below.refl _ _)
  clear ar sM;refine Jrr (i:=3) (j:=11) (l:=12) (by kernel_rfl) (by simp only [List.getElem?_toArray,List.getElem?_cons_succ,List.getElem?_cons_zero];rfl) (by simp only [List.getElem?_toArray,List.getElem?_cons_succ,List.getElem?_cons_zero];rfl) (by simp only [List.getElem?_toArray,List.getElem?_cons_succ,List.getElem?_cons_zero];rfl) rfl rfl rfl ?_ ?_ ?_
  ·refine Jj fun K hK=>?_;go_simp;refine(nN _).mono ?_;rintro r V1 ⟨rfl,ef⟩;dsimp only;have bV1:Below W1.heap.size W1 V1:=Jd bV0 ef;refine hK _ _ ⟨HS.out _ bV1,?_⟩;clear hK K
   try simp only [Act.put,sa1,sa2,sa3]
   (try replace bQ:=bQ.later ef)
   (try replace bR:=bR.later ef)
   refine Jfe (i:=11) (j:=12) (by kernel_rfl) (by simp only [List.getElem?_toArray,List.getElem?_cons_succ,List.getElem?_cons_zero];rfl) (by simp only [List.getElem?_toArray,List.getElem?_cons_succ,List.getElem?_cons_zero];rfl) rfl rfl ?_ ?_
   ·refine Jj fun K hK=>?_;go_simp;refine hK _ _ ⟨HS.out _ (Jc bV1 _),?_⟩;clear hK K
    try simp only [Act.put,sa1,sa2,sa3]
    refine Ys fun V2 hV=>?_;have bV2:Below W1.heap.size W1 V2:=by rw [hV];exact Jc bV1 _
    have bQ:AtZ V2 V1.heap.size (.int .i64 0) (.int .i64 0) (.int .i64 0):=by rw [hV];exact AtZ.new _ _ _ _ _
    (try have aS:=bR.lt)
    (try replace bR:=bR.later (show Below _ _ V2 by rw [hV];exact Jc (Below.refl _ _) _))
    have gK:W1.heap.size<=V1.heap.size:=bV1.size;clear hV;refine Kb 12 ?_;refine Jj fun K hK=>?_;go_simp;refine hK _ _ ⟨HS.out _ (Jc bV2 _),?_⟩;clear hK K
    try simp only [Act.put,sa1,sa2,sa3]
    refine Ys fun V3 hV=>?_;have bV3:Below W1.heap.size W1 V3:=by rw [hV];exact Jc bV2 _
    have bR:AtZ V3 V2.heap.size (.bool false) (.int .i64 0) (.int .i64 0):=by rw [hV];exact AtZ.new _ _ _ _ _
    (try have aS:=bQ.lt)
    (try replace bQ:=bQ.later (show Below _ _ V3 by rw [hV];exact Jc (Below.refl _ _) _))
    have qV:W1.heap.size<=V2.heap.size:=bV2.size;clear hV;refine Kb 13 ?_;obtain⟨xc0,xc1,xc2,xf0,xf1,xf2⟩:=id bQ;refine Jj fun K hK=>?_;go_simp;refine hK _ _ ⟨HS.out _ (Qq _ _ _ bV3 gK),?_⟩;clear xc0 xc1 xc2 xf0 xf1 xf2;clear hK K
    try simp only [Act.put,sa1,sa2,sa3]
    refine Ys fun V4 hV=>?_;have bV4:Below W1.heap.size W1 V4:=by rw [hV];exact Qq _ _ _ bV3 gK
    have pQ:=bQ.lt
    (try have pR:=bR.lt)
    (try (have ec:=bR.othr bQ (.int .i64 (Ky op)) (.int .i64 (Kan op)) (.int .i64 (Xn op f)) (by omega);rw [<-hV] at ec;clear bR;have bR:=ec;clear ec))
    have bW:=bQ.set (.int .i64 (Ky op)) (.int .i64 (Kan op)) (.int .i64 (Xn op f));rw [<-hV] at bW;clear bQ;have bQ:=bW;clear bW;clear hV;refine Kh (by kernel_rfl) ?_;obtain⟨pc0,pc1,pc2,pf0,pf1,pf2⟩:=id bR;refine Qx 14 ?_;refine Jj fun K hK=>?_;go_simp;refine hK _ _ ?_;clear hK K
    try simp only [Act.put,sa1,sa2,sa3]
    refine Ki (by kernel_rfl) ?_;refine Zc fun V5 gy=>?_;have bV5:Below W1.heap.size W1 V5:=by rw [gy];exact Qq _ _ _ bV4 qV
    have pQ:=bQ.lt;have pR:=bR.lt;have io:=bQ.othr bR (.bool p.met) (.int .i64 p.d) (.int .i64 p.f) (by omega);have iO:=bR.set (.bool p.met) (.int .i64 p.d) (.int .i64 p.f);rw [<-gy] at io iO;have dd:=Lib.hid io;have df:=Lib.hid iO;clear gy bQ bR io iO pc0 pc1 pc2 pf0 pf1 pf2
    go_wp2_with fail
    go_meet
    case rel=>exact⟨_,_,rfl,rfl,by omega,by omega,dd.out.lt,df.out.lt,dd.out.c0,dd.out.c1,dd.out.c2,df.out.c0,df.out.c1,df.out.c2,Ja bV5 Q0.out,Ja bV5 Q1.out,Jd eM bV5⟩
   ·refine Jj fun K hK=>?_;go_simp;refine hK _ _ ⟨HS.out _ (Jc bV1 _),?_⟩;clear hK K
    try simp only [Act.put,sa1,sa2,sa3]
    refine Ys fun V2 hV=>?_;have bV2:Below W1.heap.size W1 V2:=by rw [hV];exact Jc bV1 _
    have bR:AtZ V2 V1.heap.size (.bool false) (.int .i64 0) (.int .i64 0):=by rw [hV];exact AtZ.new _ _ _ _ _
    (try have aS:=bQ.lt)
    (try replace bQ:=bQ.later (show Below _ _ V2 by rw [hV];exact Jc (Below.refl _ _) _))
    have qV:W1.heap.size<=V1.heap.size:=bV1.size;clear hV;refine Kb 11 ?_;refine Jj fun K hK=>?_;go_simp;refine hK _ _ ⟨HS.out _ (Jc bV2 _),?_⟩;clear hK K
    try simp only [Act.put,sa1,sa2,sa3]
    refine Ys fun V3 hV=>?_;have bV3:Below W1.heap.size W1 V3:=by rw [hV];exact Jc bV2 _
    have bQ:AtZ V3 V2.heap.size (.int .i64 0) (.int .i64 0) (.int .i64 0):=by rw [hV];exact AtZ.new _ _ _ _ _
    (try have aS:=bR.lt)
    (try replace bR:=bR.later (show Below _ _ V3 by rw [hV];exact Jc (Below.refl _ _) _))
    have gK:W1.heap.size<=V2.heap.size:=bV2.size;clear hV;refine Kb 13 ?_;obtain⟨xc0,xc1,xc2,xf0,xf1,xf2⟩:=id bQ;refine Jj fun K hK=>?_;go_simp;refine hK _ _ ⟨HS.out _ (Qq _ _ _ bV3 gK),?_⟩;clear xc0 xc1 xc2 xf0 xf1 xf2;clear hK K
    try simp only [Act.put,sa1,sa2,sa3]
    refine Ys fun V4 hV=>?_;have bV4:Below W1.heap.size W1 V4:=by rw [hV];exact Qq _ _ _ bV3 gK
    have pQ:=bQ.lt
    (try have pR:=bR.lt)
    (try (have ec:=bR.othr bQ (.int .i64 (Ky op)) (.int .i64 (Kan op)) (.int .i64 (Xn op f)) (by omega);rw [<-hV] at ec;clear bR;have bR:=ec;clear ec))
    have bW:=bQ.set (.int .i64 (Ky op)) (.int .i64 (Kan op)) (.int .i64 (Xn op f));rw [<-hV] at bW;clear bQ;have bQ:=bW;clear bW;clear hV;refine Kh (by kernel_rfl) ?_;obtain⟨pc0,pc1,pc2,pf0,pf1,pf2⟩:=id bR;refine Qx 14 ?_;refine Jj fun K hK=>?_;go_simp;refine hK _ _ ?_;clear hK K
    try simp only [Act.put,sa1,sa2,sa3]
    refine Ki (by kernel_rfl) ?_;refine Zc fun V5 gy=>?_;have bV5:Below W1.heap.size W1 V5:=by rw [gy];exact Qq _ _ _ bV4 qV
    have pQ:=bQ.lt;have pR:=bR.lt;have io:=bQ.othr bR (.bool p.met) (.int .i64 p.d) (.int .i64 p.f) (by omega);have iO:=bR.set (.bool p.met) (.int .i64 p.d) (.int .i64 p.f);rw [<-gy] at io iO;have dd:=Lib.hid io;have df:=Lib.hid iO;clear gy bQ bR io iO pc0 pc1 pc2 pf0 pf1 pf2
    go_wp2_with fail
    go_meet
    case rel=>exact⟨_,_,rfl,rfl,by omega,by omega,dd.out.lt,df.out.lt,dd.out.c0,dd.out.c1,dd.out.c2,df.out.c0,df.out.c1,df.out.c2,Ja bV5 Q0.out,Ja bV5 Q1.out,Jd eM bV5⟩
  ·refine Jj fun K hK=>?_;go_simp;refine hK _ _ ⟨HS.out _ (Jc bV0 _),?_⟩;clear hK K
   try simp only [Act.put,sa1,sa2,sa3]
   refine Ys fun V1 hV=>?_;have bV1:Below W1.heap.size W1 V1:=by rw [hV];exact Jc bV0 _
   have bQ:AtZ V1 V0.heap.size (.int .i64 0) (.int .i64 0) (.int .i64 0):=by rw [hV];exact AtZ.new _ _ _ _ _
   (try have aS:=bR.lt)
   (try replace bR:=bR.later (show Below _ _ V1 by rw [hV];exact Jc (Below.refl _ _) _))
   have gK:W1.heap.size<=V0.heap.size:=bV0.size;clear hV;refine Jfe (i:=3) (j:=12) (by kernel_rfl) (by simp only [List.getElem?_toArray,List.getElem?_cons_succ,List.getElem?_cons_zero];rfl) (by simp only [List.getElem?_toArray,List.getElem?_cons_succ,List.getElem?_cons_zero];rfl) rfl rfl ?_ ?_
   ·refine Jj fun K hK=>?_;go_simp;refine(nN _).mono ?_;rintro r V2 ⟨rfl,ef⟩;dsimp only;have bV2:Below W1.heap.size W1 V2:=Jd bV1 ef;refine hK _ _ ⟨HS.out _ bV2,?_⟩;clear hK K
    try simp only [Act.put,sa1,sa2,sa3]
    (try replace bQ:=bQ.later ef)
    (try replace bR:=bR.later ef)
    refine Kb 12 ?_;refine Jj fun K hK=>?_;go_simp;refine hK _ _ ⟨HS.out _ (Jc bV2 _),?_⟩;clear hK K
    try simp only [Act.put,sa1,sa2,sa3]
    refine Ys fun V3 hV=>?_;have bV3:Below W1.heap.size W1 V3:=by rw [hV];exact Jc bV2 _
    have bR:AtZ V3 V2.heap.size (.bool false) (.int .i64 0) (.int .i64 0):=by rw [hV];exact AtZ.new _ _ _ _ _
    (try have aS:=bQ.lt)
    (try replace bQ:=bQ.later (show Below _ _ V3 by rw [hV];exact Jc (Below.refl _ _) _))
    have qV:W1.heap.size<=V2.heap.size:=bV2.size;clear hV;refine Kb 13 ?_;obtain⟨xc0,xc1,xc2,xf0,xf1,xf2⟩:=id bQ;refine Jj fun K hK=>?_;go_simp;refine hK _ _ ⟨HS.out _ (Qq _ _ _ bV3 gK),?_⟩;clear xc0 xc1 xc2 xf0 xf1 xf2;clear hK K
    try simp only [Act.put,sa1,sa2,sa3]
    refine Ys fun V4 hV=>?_;have bV4:Below W1.heap.size W1 V4:=by rw [hV];exact Qq _ _ _ bV3 gK
    have pQ:=bQ.lt
    (try have pR:=bR.lt)
    (try (have ec:=bR.othr bQ (.int .i64 (Ky op)) (.int .i64 (Kan op)) (.int .i64 (Xn op f)) (by omega);rw [<-hV] at ec;clear bR;have bR:=ec;clear ec))
    have bW:=bQ.set (.int .i64 (Ky op)) (.int .i64 (Kan op)) (.int .i64 (Xn op f));rw [<-hV] at bW;clear bQ;have bQ:=bW;clear bW;clear hV;refine Kh (by kernel_rfl) ?_;obtain⟨pc0,pc1,pc2,pf0,pf1,pf2⟩:=id bR;refine Qx 14 ?_;refine Jj fun K hK=>?_;go_simp;refine hK _ _ ?_;clear hK K
    try simp only [Act.put,sa1,sa2,sa3]
    refine Ki (by kernel_rfl) ?_;refine Zc fun V5 gy=>?_;have bV5:Below W1.heap.size W1 V5:=by rw [gy];exact Qq _ _ _ bV4 qV
    have pQ:=bQ.lt;have pR:=bR.lt;have io:=bQ.othr bR (.bool p.met) (.int .i64 p.d) (.int .i64 p.f) (by omega);have iO:=bR.set (.bool p.met) (.int .i64 p.d) (.int .i64 p.f);rw [<-gy] at io iO;have dd:=Lib.hid io;have df:=Lib.hid iO;clear gy bQ bR io iO pc0 pc1 pc2 pf0 pf1 pf2
    go_wp2_with fail
    go_meet
    case rel=>exact⟨_,_,rfl,rfl,by omega,by omega,dd.out.lt,df.out.lt,dd.out.c0,dd.out.c1,dd.out.c2,df.out.c0,df.out.c1,df.out.c2,Ja bV5 Q0.out,Ja bV5 Q1.out,Jd eM bV5⟩
   ·refine Jj fun K hK=>?_;go_simp;refine hK _ _ ⟨HS.out _ (Jc bV1 _),?_⟩;clear hK K
    try simp only [Act.put,sa1,sa2,sa3]
    refine Ys fun V2 hV=>?_;have bV2:Below W1.heap.size W1 V2:=by rw [hV];exact Jc bV1 _
    have bR:AtZ V2 V1.heap.size (.bool false) (.int .i64 0) (.int .i64 0):=by rw [hV];exact AtZ.new _ _ _ _ _
    (try have aS:=bQ.lt)
    (try replace bQ:=bQ.later (show Below _ _ V2 by rw [hV];exact Jc (Below.refl _ _) _))
    have qV:W1.heap.size<=V1.heap.size:=bV1.size;clear hV;refine Kb 3 ?_;refine Jj fun K hK=>?_;go_simp;refine(nN _).mono ?_;rintro r V3 ⟨rfl,ef⟩;dsimp only;have bV3:Below W1.heap.size W1 V3:=Jd bV2 ef;refine hK _ _ ⟨HS.out _ bV3,?_⟩;clear hK K
    try simp only [Act.put,sa1,sa2,sa3]
    (try replace bQ:=bQ.later ef)
    (try replace bR:=bR.later ef)
    refine Kb 13 ?_;obtain⟨xc0,xc1,xc2,xf0,xf1,xf2⟩:=id bQ;refine Jj fun K hK=>?_;go_simp;refine hK _ _ ⟨HS.out _ (Qq _ _ _ bV3 gK),?_⟩;clear xc0 xc1 xc2 xf0 xf1 xf2;clear hK K
    try simp only [Act.put,sa1,sa2,sa3]
    refine Ys fun V4 hV=>?_;have bV4:Below W1.heap.size W1 V4:=by rw [hV];exact Qq _ _ _ bV3 gK
    have pQ:=bQ.lt
    (try have pR:=bR.lt)
    (try (have ec:=bR.othr bQ (.int .i64 (Ky op)) (.int .i64 (Kan op)) (.int .i64 (Xn op f)) (by omega);rw [<-hV] at ec;clear bR;have bR:=ec;clear ec))
    have bW:=bQ.set (.int .i64 (Ky op)) (.int .i64 (Kan op)) (.int .i64 (Xn op f));rw [<-hV] at bW;clear bQ;have bQ:=bW;clear bW;clear hV;refine Kh (by kernel_rfl) ?_;obtain⟨pc0,pc1,pc2,pf0,pf1,pf2⟩:=id bR;refine Qx 14 ?_;refine Jj fun K hK=>?_;go_simp;refine hK _ _ ?_;clear hK K
    try simp only [Act.put,sa1,sa2,sa3]
    refine Ki (by kernel_rfl) ?_;refine Zc fun V5 gy=>?_;have bV5:Below W1.heap.size W1 V5:=by rw [gy];exact Qq _ _ _ bV4 qV
    have pQ:=bQ.lt;have pR:=bR.lt;have io:=bQ.othr bR (.bool p.met) (.int .i64 p.d) (.int .i64 p.f) (by omega);have iO:=bR.set (.bool p.met) (.int .i64 p.d) (.int .i64 p.f);rw [<-gy] at io iO;have dd:=Lib.hid io;have df:=Lib.hid iO;clear gy bQ bR io iO pc0 pc1 pc2 pf0 pf1 pf2
    go_wp2_with fail
    go_meet
    case rel=>exact⟨_,_,rfl,rfl,by omega,by omega,dd.out.lt,df.out.lt,dd.out.c0,dd.out.c1,dd.out.c2,df.out.c0,df.out.c1,df.out.c2,Ja bV5 Q0.out,Ja bV5 Q1.out,Jd eM bV5⟩
  ·refine Jj fun K hK=>?_;go_simp;refine hK _ _ ⟨HS.out _ (Jc bV0 _),?_⟩;clear hK K
   try simp only [Act.put,sa1,sa2,sa3]
   refine Ys fun V1 hV=>?_;have bV1:Below W1.heap.size W1 V1:=by rw [hV];exact Jc bV0 _
   have bR:AtZ V1 V0.heap.size (.bool false) (.int .i64 0) (.int .i64 0):=by rw [hV];exact AtZ.new _ _ _ _ _
   (try have aS:=bQ.lt)
   (try replace bQ:=bQ.later (show Below _ _ V1 by rw [hV];exact Jc (Below.refl _ _) _))
   have qV:W1.heap.size<=V0.heap.size:=bV0.size;clear hV;refine Jfe (i:=3) (j:=11) (by kernel_rfl) (by simp only [List.getElem?_toArray,List.getElem?_cons_succ,List.getElem?_cons_zero];rfl) (by simp only [List.getElem?_toArray,List.getElem?_cons_succ,List.getElem?_cons_zero];rfl) rfl rfl ?_ ?_
   ·refine Jj fun K hK=>?_;go_simp;refine(nN _).mono ?_;rintro r V2 ⟨rfl,ef⟩;dsimp only;have bV2:Below W1.heap.size W1 V2:=Jd bV1 ef;refine hK _ _ ⟨HS.out _ bV2,?_⟩;clear hK K
    try simp only [Act.put,sa1,sa2,sa3]
    (try replace bQ:=bQ.later ef)
    (try replace bR:=bR.later ef)
    refine Kb 11 ?_;refine Jj fun K hK=>?_;go_simp;refine hK _ _ ⟨HS.out _ (Jc bV2 _),?_⟩;clear hK K
    try simp only [Act.put,sa1,sa2,sa3]
    refine Ys fun V3 hV=>?_;have bV3:Below W1.heap.size W1 V3:=by rw [hV];exact Jc bV2 _
    have bQ:AtZ V3 V2.heap.size (.int .i64 0) (.int .i64 0) (.int .i64 0):=by rw [hV];exact AtZ.new _ _ _ _ _
    (try have aS:=bR.lt)
    (try replace bR:=bR.later (show Below _ _ V3 by rw [hV];exact Jc (Below.refl _ _) _))
    have gK:W1.heap.size<=V2.heap.size:=bV2.size;clear hV;refine Kb 13 ?_;obtain⟨xc0,xc1,xc2,xf0,xf1,xf2⟩:=id bQ;refine Jj fun K hK=>?_;go_simp;refine hK _ _ ⟨HS.out _ (Qq _ _ _ bV3 gK),?_⟩;clear xc0 xc1 xc2 xf0 xf1 xf2;clear hK K
    try simp only [Act.put,sa1,sa2,sa3]
    refine Ys fun V4 hV=>?_;have bV4:Below W1.heap.size W1 V4:=by rw [hV];exact Qq _ _ _ bV3 gK
    have pQ:=bQ.lt
    (try have pR:=bR.lt)
    (try (have ec:=bR.othr bQ (.int .i64 (Ky op)) (.int .i64 (Kan op)) (.int .i64 (Xn op f)) (by omega);rw [<-hV] at ec;clear bR;have bR:=ec;clear ec))
    have bW:=bQ.set (.int .i64 (Ky op)) (.int .i64 (Kan op)) (.int .i64 (Xn op f));rw [<-hV] at bW;clear bQ;have bQ:=bW;clear bW;clear hV;refine Kh (by kernel_rfl) ?_;obtain⟨pc0,pc1,pc2,pf0,pf1,pf2⟩:=id bR;refine Qx 14 ?_;refine Jj fun K hK=>?_;go_simp;refine hK _ _ ?_;clear hK K
    try simp only [Act.put,sa1,sa2,sa3]
    refine Ki (by kernel_rfl) ?_;refine Zc fun V5 gy=>?_;have bV5:Below W1.heap.size W1 V5:=by rw [gy];exact Qq _ _ _ bV4 qV
    have pQ:=bQ.lt;have pR:=bR.lt;have io:=bQ.othr bR (.bool p.met) (.int .i64 p.d) (.int .i64 p.f) (by omega);have iO:=bR.set (.bool p.met) (.int .i64 p.d) (.int .i64 p.f);rw [<-gy] at io iO;have dd:=Lib.hid io;have df:=Lib.hid iO;clear gy bQ bR io iO pc0 pc1 pc2 pf0 pf1 pf2
    go_wp2_with fail
    go_meet
    case rel=>exact⟨_,_,rfl,rfl,by omega,by omega,dd.out.lt,df.out.lt,dd.out.c0,dd.out.c1,dd.out.c2,df.out.c0,df.out.c1,df.out.c2,Ja bV5 Q0.out,Ja bV5 Q1.out,Jd eM bV5⟩
   ·refine Jj fun K hK=>?_;go_simp;refine hK _ _ ⟨HS.out _ (Jc bV1 _),?_⟩;clear hK K
    try simp only [Act.put,sa1,sa2,sa3]
    refine Ys fun V2 hV=>?_;have bV2:Below W1.heap.size W1 V2:=by rw [hV];exact Jc bV1 _
    have bQ:AtZ V2 V1.heap.size (.int .i64 0) (.int .i64 0) (.int .i64 0):=by rw [hV];exact AtZ.new _ _ _ _ _
    (try have aS:=bR.lt)
    (try replace bR:=bR.later (show Below _ _ V2 by rw [hV];exact Jc (Below.refl _ _) _))
    have gK:W1.heap.size<=V1.heap.size:=bV1.size;clear hV;refine Kb 3 ?_;refine Jj fun K hK=>?_;go_simp;refine(nN _).mono ?_;rintro r V3 ⟨rfl,ef⟩;dsimp only;have bV3:Below W1.heap.size W1 V3:=Jd bV2 ef;refine hK _ _ ⟨HS.out _ bV3,?_⟩;clear hK K
    try simp only [Act.put,sa1,sa2,sa3]
    (try replace bQ:=bQ.later ef)
    (try replace bR:=bR.later ef)
    refine Kb 13 ?_;obtain⟨xc0,xc1,xc2,xf0,xf1,xf2⟩:=id bQ;refine Jj fun K hK=>?_;go_simp;refine hK _ _ ⟨HS.out _ (Qq _ _ _ bV3 gK),?_⟩;clear xc0 xc1 xc2 xf0 xf1 xf2;clear hK K
    try simp only [Act.put,sa1,sa2,sa3]
    refine Ys fun V4 hV=>?_;have bV4:Below W1.heap.size W1 V4:=by rw [hV];exact Qq _ _ _ bV3 gK
    have pQ:=bQ.lt
    (try have pR:=bR.lt)
    (try (have ec:=bR.othr bQ (.int .i64 (Ky op)) (.int .i64 (Kan op)) (.int .i64 (Xn op f)) (by omega);rw [<-hV] at ec;clear bR;have bR:=ec;clear ec))
    have bW:=bQ.set (.int .i64 (Ky op)) (.int .i64 (Kan op)) (.int .i64 (Xn op f));rw [<-hV] at bW;clear bQ;have bQ:=bW;clear bW;clear hV;refine Kh (by kernel_rfl) ?_;obtain⟨pc0,pc1,pc2,pf0,pf1,pf2⟩:=id bR;refine Qx 14 ?_;refine Jj fun K hK=>?_;go_simp;refine hK _ _ ?_;clear hK K
    try simp only [Act.put,sa1,sa2,sa3]
    refine Ki (by kernel_rfl) ?_;refine Zc fun V5 gy=>?_;have bV5:Below W1.heap.size W1 V5:=by rw [gy];exact Qq _ _ _ bV4 qV
    have pQ:=bQ.lt;have pR:=bR.lt;have io:=bQ.othr bR (.bool p.met) (.int .i64 p.d) (.int .i64 p.f) (by omega);have iO:=bR.set (.bool p.met) (.int .i64 p.d) (.int .i64 p.f);rw [<-gy] at io iO;have dd:=Lib.hid io;have df:=Lib.hid iO;clear gy bQ bR io iO pc0 pc1 pc2 pf0 pf1 pf2
    go_wp2_with fail
    go_meet
    case rel=>exact⟨_,_,rfl,rfl,by omega,by omega,dd.out.lt,df.out.lt,dd.out.c0,dd.out.c1,dd.out.c2,df.out.c0,df.out.c1,df.out.c2,Ja bV5 Q0.out,Ja bV5 Q1.out,Jd eM bV5⟩
 case rest=>
  obtain⟨gx,gp,rfl,rfl,zx1,zp1,zx2,zp2,t0,t1,t2,m0,m1,m2,q0,q1,bU⟩:=hcut;have x0:=Ja bU c0;have x1:=Ja bU c1;have fx:=(Jf bU X 1 pO).trans fX;have HPC:=Lib.hid (HP.out.later hB bU);have tkr:=Jjp op;have gvr:=Jj1 op;have hR:=HR.out;clear HR HP nN ac eM y0 y1 y2 k0 k1 k2 k3 k4 b0 b1 b2;generalize Ky op=tk at *;generalize Kan op=gv at *;generalize Xn op f=rm at *;obtain⟨pm,pd,pf⟩:=p;dsimp only at *;obtain⟨lA,js,zb,db,gG⟩:=hpd;have hwN:wrap64 N=N:=by unfold I32 at hN;unfold wrap64;omega
  clear gG
  by_cases hA:0<=rm/\rm<=N
  ·rw [if_pos hA] at hR;have pS:=Lib.hid (show R.1=10 by rw [hR]);obtain⟨hA1,tM⟩:=hA;have dA1:decide (0<=rm)=true:=by simpa using hA1
   have dA2:decide (rm<=N)=true:=by simpa using tM
   clear hR
   go_wp2_with fail
   go_ret;exact Jhi.bel (Jm pS.out.symm) (by rw [pS.out];decide) pO bU
  ·have xJ:rm<0\/N<rm:=by omega
   rw [if_neg hA] at hR;clear hA;have HRH:=Lib.hid hR;clear hR
   go_upto_region 6 with fail
   go_cut [38] from 39 to 49 (fun s wx=>s = .bool false/\wx=wc)
   case first=>
    rcases xJ with xJ|xJ
    ·go_wp2_with fail
     go_meet
     case rel=>exact⟨rfl,rfl⟩
    ·by_cases h0:0<=rm
     ·have dA2:¬rm<=N:=by omega
      go_wp2_with fail
      go_meet
      case rel=>exact⟨rfl,rfl⟩
     ·go_wp2_with fail
      go_meet
      case rel=>exact⟨rfl,rfl⟩
   case rest=>
    obtain⟨rfl,rfl⟩:=hcut;have hR:=HRH.out;clear xJ HRH t2
    cases pm
    ·rw [if_pos rfl] at hR;have pS:=Lib.hid (show R.1=13 by rw [hR]);clear hR
     go_wp2_with fail
     go_ret;exact Jhi.bel (Jm pS.out.symm) (by rw [pS.out];decide) pO bU
    rw [if_neg (by decide)] at hR
    by_cases dr:pd<tk
    ·rw [if_pos (.inl dr)] at hR;have pS:=Lib.hid (show R.1=12 by rw [hR]);clear hR
     go_wp2_with fail
     go_ret;exact Jhi.bel (Jm pS.out.symm) (by rw [pS.out];decide) pO bU
    by_cases dk:16<pd-tk+gv
    ·rw [if_pos (.inr dk)] at hR;have pS:=Lib.hid (show R.1=12 by rw [hR]);clear hR
     go_wp2_with fail
     go_ret;exact Jhi.bel (Jm pS.out.symm) (by rw [pS.out];decide) pO bU
    rw [if_neg (by omega)] at hR;have hd:0<=pd-tk+gv/\pd-tk+gv<=16:=by omega
    have sN:=Lib.hid hR;clear hR;have hyX:=block_lt_of_cell x0
    go_upto_region 13 with fail
    refine Jo fun V hV=>?_;have mH:(if dep<pd-tk+gv then pd-tk+gv else dep)=max dep (pd-tk+gv):=by omega
    rw [mH] at hV ⊢
    have jQ:Jl4 X B W V (max dep (pd-tk+gv)):=by
     rw [hV];exact⟨(J6.bel bU).setCell (.inr rfl) _ _,(J5 _ _ _ _ _ (by decide)).trans (Jg bU _ _ pO),World.cell?_setCell_same _ _ _ x1,(J5 _ _ _ _ _ (by decide)).trans (Jg bU _ _ pO),fun o=>(World.frozen?_setCell ..).trans (Jf bU _ _ pO)⟩
    have zc:Zv V B ps:=by rw [hV];exact HPC.out.blk jt _
    have v0:V.cell? ⟨X,0,none⟩=some (.slice (some ⟨B,0,none⟩) ps.length ps.length):=by rw [hV,J5 _ _ _ _ _ (by decide)];exact x0
    have vm:V.cell? ⟨gp,2,none⟩=some (.int .i64 pf):=by rw [hV,Qm _ _ _ _ _ _ (by omega)];exact m2
    have vq0:V.cell? ⟨W.heap.size,0,none⟩=some (.int .i64 op):=by rw [hV,Qm _ _ _ _ _ _ (by omega)];exact q0
    have vq1:V.cell? ⟨W.heap.size,1,none⟩=some (.int .i32 N):=by rw [hV,Qm _ _ _ _ _ _ (by omega)];exact q1
    have rB:B<V.heap.size:=by have:=jQ.k.size;omega
    have kM:=block_lt_of_cell v0;clear hV mH x0 x1 fx t0 t1 m0 m1 m2 q0 q1 HPC dr dk c0 c1 fX;have HV:=Lib.hid jQ;have wS:=Lib.hid zc;clear jQ zc;generalize pd-tk+gv=d at *;generalize gI:max dep d=mx at *;clear gI;have sO:=fun(W:World) (ps':List Pl) (j:Nat) hc hp hB wR ai gG=>Jws X B ps' j d (pf+1) W jt hc hp hB wR ai gG;have mY:=Lib.hid sO;clear sO
    by_cases bM:op=10
    ·have t10:(op == 10)=true:=by simpa using bM
     have t10n:(op != 10)=false:=by simpa using bM
     have uy:=Jpw HRT.out (.inl bM);obtain⟨hN0,hN6⟩:=uy;have hR:=sN.out
     by_cases hJ:(ps.length:Int)<=(at_:Int)+1+N
     ·rw [if_pos ⟨.inl bM,hJ⟩] at hR;have hY:=Lib.hid (show R.1=11 by rw [hR]);have dJ:decide ((ps.length:Int)<=(at_:Int)+1+N)=true:=by simpa using hJ
      clear hR bM sN hJ
      go_upto_region 14 with fail
      go_quiet (fail)
      go_wp2_with fail
      go_ret;exact(HV.out.step kM jt (J6.bel Jb)).done (Jm hY.out.symm) (fun h=>absurd (hY.out.symm.trans h) (by decide))
     rw [if_neg (by omega),if_pos bM] at hR;dsimp only at hR;rw [if_pos (.inl bM)] at hR;have dJ:decide ((ps.length:Int)<=(at_:Int)+1+N)=false:=by simpa using hJ
     obtain⟨j,hj⟩:∃j:Nat,j=((at_:Int)+1+N).toNat:=⟨_,rfl⟩;rw [<-hj] at hR;have mX:j<ps.length:=by omega
     have jO:(j:Int)=(at_:Int)+1+N:=by omega
     clear bM sN hj
     go_upto_region 14 with fail
     go_quiet (fail)
     go_upto_region 16 with fail
     refine Jo fun V2 bz=>?_;have bK:Below V.heap.size V V2:=by rw [bz];exact Jb
     have w0:=Ja bK v0;have wm:=Ja bK vm;have wq0:=Ja bK vq0;have wq1:=Ja bK vq1;have bL:=Lib.hid (HV.out.step kM jt (J6.bel bK));have zd:=Lib.hid (wS.out.later rB bK);have ke:=block_lt_of_cell w0;have mi:B<V2.heap.size:=Nat.lt_of_lt_of_le rB bK.size;clear bz bK v0 vm vq0 vq1 HV wS rB kM;have ak:=mY.out V2 ps j w0 zd.out mi mX pP (fun p hp=>(kc.out.all _ p hp).2.2.2.2);rw [jO] at ak;clear jO
     cases fG:Ja5 ps j d (pf+1) with
     | none=>
      rw [fG] at hR ak;have hY:=Lib.hid (show R.1=12 by rw [hR]);clear hR fG
      go_wp2_with (go_at_call 97;refine ak.mono ?_;rintro r V3 ⟨rfl,ip,dU⟩)
      go_ret;exact(bL.out.step ke jt dU).done (Jm hY.out.symm) (fun h=>absurd (hY.out.symm.trans h) (by decide))
     | some ps1=>
      rw [fG] at hR ak;dsimp only at hR;have hY:=Lib.hid hR;clear hR fG
      go_wp2_with (go_at_call 97;refine ak.mono ?_;rintro r V3 ⟨rfl,ip,dU⟩)
      go_ret;exact(bL.out.step ke jt dU).done (Jm (by rw [hY.out])) (fun _=>by rw [hY.out];exact⟨ip,rfl⟩)
    by_cases gh:op=11
    ·have t10:(op == 10)=false:=by simpa using bM
     have t10n:(op != 10)=true:=by simpa using bM
     have t11:(op == 11)=true:=by simpa using gh
     have uy:=Jpw HRT.out (.inr gh);obtain⟨hN0,hN6⟩:=uy;have hR:=sN.out
     by_cases hJ:(ps.length:Int)<=(at_:Int)+1+N
     ·rw [if_pos ⟨.inr gh,hJ⟩] at hR;have hY:=Lib.hid (show R.1=11 by rw [hR]);have dJ:decide ((ps.length:Int)<=(at_:Int)+1+N)=true:=by simpa using hJ
      clear hR bM gh sN hJ
      go_upto_region 14 with fail
      go_quiet (fail)
      go_wp2_with fail
      go_ret;exact(HV.out.step kM jt (J6.bel Jb)).done (Jm hY.out.symm) (fun h=>absurd (hY.out.symm.trans h) (by decide))
     rw [if_neg (by omega),if_neg bM] at hR;have dJ:decide ((ps.length:Int)<=(at_:Int)+1+N)=false:=by simpa using hJ
     obtain⟨j,hj⟩:∃j:Nat,j=((at_:Int)+1+N).toNat:=⟨_,rfl⟩;rw [<-hj] at hR;have mX:j<ps.length:=by omega
     have jO:(j:Int)=(at_:Int)+1+N:=by omega
     have hj11:op=10\/op=11:= .inr gh;clear bM gh sN hj
     go_upto_region 14 with fail
     go_quiet (fail)
     go_upto_region 16 with fail
     refine Jo fun V2 bz=>?_;have bK:Below V.heap.size V V2:=by rw [bz];exact Jb
     have w0:=Ja bK v0;have wm:=Ja bK vm;have wq0:=Ja bK vq0;have wq1:=Ja bK vq1;have bL:=Lib.hid (HV.out.step kM jt (J6.bel bK));have zd:=Lib.hid (wS.out.later rB bK);have ke:=block_lt_of_cell w0;have mi:B<V2.heap.size:=Nat.lt_of_lt_of_le rB bK.size;clear bz bK v0 vm vq0 vq1 HV wS rB kM;have ak:=mY.out V2 ps (at_+1) w0 zd.out mi (by have:=eO.out;omega) pP (fun p hp=>(kc.out.all _ p hp).2.2.2.2);rw [show((at_+1:Nat):Int)=(at_:Int)+1 by omega] at ak
     cases fG:Ja5 ps (at_+1) d (pf+1) with
     | none=>
      rw [fG] at hR ak;have hY:=Lib.hid (show R.1=12 by rw [hR]);clear hR fG jO
      go_wp2_with (go_at_call 97;refine ak.mono ?_;rintro r V3 ⟨rfl,ip,dU⟩)
      go_ret;exact(bL.out.step ke jt dU).done (Jm hY.out.symm) (fun h=>absurd (hY.out.symm.trans h) (by decide))
     | some ps1=>
      have uz:=(kc.out.more (Nat.le_succ at_)).come fG hd ⟨by omega,by omega⟩;have bI:=Jv1 fG;rw [fG] at hR ak;dsimp only at hR;rw [if_pos hj11] at hR;have dm:=fun V3 hx hp hb=>mY.out V3 ps1 j hx hp hb (by omega) (by omega) (fun p hp=>(uz.all _ p hp).2.2.2.2);rw [jO,bI] at dm;have HOK1:=Lib.hid uz;have gK:gp≠B:=by omega
      have hwx:W.heap.size≠B:=by omega
      clear jO uz bI fG
      cases nO:Ja5 ps1 j d (pf+1) with
      | none=>
       rw [nO] at hR dm;have hY:=Lib.hid (show R.1=12 by rw [hR]);clear hR nO
       go_wp2_with (first
        | (have hcX:=uA;go_at_call 97;refine(dm _ uA ip cZ).mono ?_;rintro r V4 ⟨rfl,bT,iA⟩)
        | (go_at_call 97;refine ak.mono ?_;rintro r V3 ⟨rfl,ip,dU⟩;have uA:=dU.cell (b:=X) jt w0;have cZ:B<V3.heap.size:=Nat.lt_of_lt_of_le mi dU.size;have wm3:=dU.cell (b:=gp) gK wm;have wq3:=dU.cell (b:=W.heap.size) hwx wq0;have wq4:=dU.cell (b:=W.heap.size) hwx wq1))
       go_ret;exact((bL.out.step ke jt dU).step (block_lt_of_cell uA) jt iA).done (Jm hY.out.symm) (fun h=>absurd (hY.out.symm.trans h) (by decide))
      | some ps2=>
       rw [nO] at hR dm;dsimp only at hR;have hY:=Lib.hid hR;clear hR nO
       go_wp2_with (first
        | (have hcX:=uA;go_at_call 97;refine(dm _ uA ip cZ).mono ?_;rintro r V4 ⟨rfl,bT,iA⟩)
        | (go_at_call 97;refine ak.mono ?_;rintro r V3 ⟨rfl,ip,dU⟩;have uA:=dU.cell (b:=X) jt w0;have cZ:B<V3.heap.size:=Nat.lt_of_lt_of_le mi dU.size;have wm3:=dU.cell (b:=gp) gK wm;have wq3:=dU.cell (b:=W.heap.size) hwx wq0;have wq4:=dU.cell (b:=W.heap.size) hwx wq1))
       go_ret;exact((bL.out.step ke jt dU).step (block_lt_of_cell uA) jt iA).done (Jm (by rw [hY.out])) (fun _=>by rw [hY.out];exact⟨bT,rfl⟩)
    ·have t10:(op == 10)=false:=by simpa using bM
     have t11:(op == 11)=false:=by simpa using gh
     have t10n:(op != 10)=true:=by simpa using bM
     have hR:=sN.out;rw [if_neg (by omega),if_neg bM] at hR;have hnj:¬(op=10\/op=11):=by omega
     clear bM gh sN
     go_upto_region 14 with fail
     go_quiet (fail)
     go_upto_region 16 with fail
     refine Jo fun V2 bz=>?_;have bK:Below V.heap.size V V2:=by rw [bz];exact Jb
     have w0:=Ja bK v0;have wm:=Ja bK vm;have wq0:=Ja bK vq0;have wq1:=Ja bK vq1;have bL:=Lib.hid (HV.out.step kM jt (J6.bel bK));have zd:=Lib.hid (wS.out.later rB bK);have ke:=block_lt_of_cell w0;have mi:B<V2.heap.size:=Nat.lt_of_lt_of_le rB bK.size;clear bz bK v0 vm vq0 vq1 HV wS rB kM;have ak:=mY.out V2 ps (at_+1) w0 zd.out mi (by have:=eO.out;omega) pP (fun p hp=>(kc.out.all _ p hp).2.2.2.2);rw [show((at_+1:Nat):Int)=(at_:Int)+1 by omega] at ak
     cases fG:Ja5 ps (at_+1) d (pf+1) with
     | none=>
      rw [fG] at hR ak;have hY:=Lib.hid (show R.1=12 by rw [hR]);clear hR fG
      go_wp2_with (go_at_call 97;refine ak.mono ?_;rintro r V3 ⟨rfl,ip,dU⟩)
      go_ret;exact(bL.out.step ke jt dU).done (Jm hY.out.symm) (fun h=>absurd (hY.out.symm.trans h) (by decide))
     | some ps1=>
      rw [fG] at hR ak;dsimp only at hR;rw [if_neg hnj] at hR;have hY:=Lib.hid hR;clear hR fG
      go_wp2_with (go_at_call 97;refine ak.mono ?_;rintro r V3 ⟨rfl,ip,dU⟩)
      go_ret;exact(bL.out.step ke jt dU).done (Jm (by rw [hY.out])) (fun _=>by rw [hY.out];exact⟨ip,rfl⟩)
end Go.Proofs.YtdgjplldlfeolaaGreatDoor
