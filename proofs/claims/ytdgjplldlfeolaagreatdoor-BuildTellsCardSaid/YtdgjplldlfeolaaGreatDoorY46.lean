/- Lemmas. -/
import Derived.Test.YtdgjplldlfeolaaGreatDoorMac
import Derived.Test.YtdgjplldlfeolaaGreatDoorY44
import Derived.Deep.RegionLaw
set_option linter.unusedVariables false
set_option linter.unusedSimpArgs false
set_option maxRecDepth 100000
set_option maxHeartbeats 64000000
namespace Go.Proofs.YtdgjplldlfeolaaGreatDoor
open Go.RowKit Go.Sort
theorem Kqh (W V:World) (l1 l2:List Value) (t1 t2:TypeId) (h1:∀u∈l1,∀k,u≠ .int .i32 k) (h2:∀u∈l2,∀k,u≠ .int .i32 k)
  (hb:Below ((W.alloc (.cells l1.toArray t1)).alloc (.cells l2.toArray t2)).heap.size ((W.alloc (.cells l1.toArray t1)).alloc (.cells l2.toArray t2)) V):Khq V W.heap.size/\Khq V (W.heap.size+1):=by
 have n1:=(Khq.new W l1 t1 h1).later (Jc (Nt) (.cells l2.toArray t2)) Uh;have n2:=Khq.new (W.alloc (.cells l1.toArray t1)) l2 t2 h2;rw [show(W.alloc (.cells l1.toArray t1)).heap.size=W.heap.size+1 by simp] at n2;exact⟨n1.later hb Ud,n2.later hb Uh⟩
def Ktt (W:World) (p:Pr) (x:Im×(Int×Int×Int)) (r:Ending) (W':World):Prop:=
 (∃pa ia,r = .returned (.tuple #[srV p.name pa.A1 p.ins.length pa.c1 pa.A2 p.outs.length pa.c2 pa.A3 p.locals.length pa.c3 pa.A4 p.eqs.length pa.c4 x.1 ia,fV x.2])/\Jd5 W' x.1 ia/\Kr W' p pa)/\Below W.heap.size W W'
theorem Krm (s:ByteArray) (v:Int) (W:World) (hs:s.size<=maxLen) (hg:Ql W) (hv:0<=v/\v<4294967296) (hf:(Kdm s).2.1=0) :
  Calls Tryz.prog 15 #[.string s,.int .u32 v] W (Ktt W (Kdm s).1 (imE (Kdm s).1 v)):=by
 have hp:=fun w=>Khm s w hs;obtain⟨aw,n1,n2,n3,n4⟩:=Kje s;unfold Khe at hp;generalize Kdm s=P at hp hf aw n1 n2 n3 n4 ⊢;obtain⟨p,e,at0⟩:=P;dsimp only at hp hf aw n1 n2 n3 n4 ⊢;subst hf;have hgi:=fun a w (h:Below W.heap.size W w) (aY:Kr w p a)=>Jiy p a v w (hg.later h) aY aw n1 n2 n3 n4 hv;generalize imE p v=R at hgi ⊢;obtain⟨M,k1,k2,k3⟩:=R;unfold imV fV at hgi;unfold prV at hp hgi;dsimp only at hp hgi;have HGI:=Nf hgi;clear hgi aw n1 n2 n3 n4 hg
 go_enter Tryz.func15,Tryz.ntmps15
 go_upto_region 5 with (first
  | (go_at_call 7;go_loud (refine(hp _).mono ?_;rintro r w1 ⟨⟨⟨A1,c1,A2,c2,A3,c3,A4,c4⟩,rfl,aY⟩,ac⟩;have mz:=aY.later (Jc (Below.refl w1.heap.size w1) (.cells #[.string p.name,.slice A1 p.ins.length c1,.slice A2 p.outs.length c2,.slice A3 p.locals.length c3,.slice A4 p.eqs.length c4] 38));have af:=ac.size;(try simp at af)))
  | (go_at_call 34;go_loud (refine(HGI.out ⟨A1,c1,A2,c2,A3,c3,A4,c4⟩ _ (Jc (Jd (Jc (Jc (Nt) _) _) ac) _) mz).mono ?_;rintro r w2 ⟨⟨⟨D1,e1,D2,e2,D3,e3⟩,rfl,him⟩,aq⟩;have br:=aq.size;(try simp at br))))
 refine Jo fun V hV=>?_;have fk:=Nd w2 V Vj;have hb12:=Nd w1 V (Jd (Jd (Jc (Nt) _) aq) fk);have ax:=Jd ac hb12;have dZ:=Nd W V (Jd (Jc (Jc (Nt) _) _) ax);have p0:=Nb V w1.heap.size 0 (.string p.name) (Ja fk (Ja aq Uc));have p1:=Nb V w1.heap.size 1 (.slice A1 p.ins.length c1) (Ja fk (Ja aq Uc));have p2:=Nb V w1.heap.size 2 (.slice A2 p.outs.length c2) (Ja fk (Ja aq Uc));have p3:=Nb V w1.heap.size 3 (.slice A3 p.locals.length c3) (Ja fk (Ja aq Uc));have p4:=Nb V w1.heap.size 4 (.slice A4 p.eqs.length c4) (Ja fk (Ja aq Uc));have m0:=Nb V w2.heap.size 0 (.int .u32 M.ver) Uj;have m1:=Nb V w2.heap.size 1 (.int .u32 M.fro) Uj;have m2:=Na V w2.heap.size 2 M.eld Uj;have m3:=Na V w2.heap.size 3 M.fr.s Uj;have m4:=Na V w2.heap.size 4 M.fr.o Uj;have m5:=Na V w2.heap.size 5 M.fr.n Uj;have m6:=Na V w2.heap.size 6 M.fr.i Uj;have m7:=Na V w2.heap.size 7 M.fr.u Uj;have m8:=Nb V w2.heap.size 8 (.slice D1 M.first.length e1) Uj;have m9:=Nb V w2.heap.size 9 (.slice D2 M.step.length e2) Uj;have m10:=Nb V w2.heap.size 10 (.slice D3 M.move.length e3) Uj;have m11:=Na V w2.heap.size 11 M.sf Uj;have m12:=Na V w2.heap.size 12 M.mf Uj;have f0:=Na V (w2.heap.size+1) 0 k1 Uj;have f1:=Na V (w2.heap.size+1) 1 k2 Uj;have f2:=Na V (w2.heap.size+1) 2 k3 Uj;have z0:=Nb V W.heap.size 0 (.string ⟨#[]⟩) (Ja ax Uc);have z1:=Nb V W.heap.size 1 (.slice none 0 0) (Ja ax Uc);have z2:=Nb V W.heap.size 2 (.slice none 0 0) (Ja ax Uc);have z3:=Nb V W.heap.size 3 (.slice none 0 0) (Ja ax Uc);have z4:=Nb V W.heap.size 4 (.slice none 0 0) (Ja ax Uc);have z5:=Nb V W.heap.size 5 (.int .u32 0) (Ja ax Uc);have z6:=Nb V W.heap.size 6 (.int .u32 0) (Ja ax Uc);have z7:=Na V W.heap.size 7 0 (Ja ax Uc);have z8:=Na V W.heap.size 8 0 (Ja ax Uc);have z9:=Na V W.heap.size 9 0 (Ja ax Uc);have z10:=Na V W.heap.size 10 0 (Ja ax Uc);have z11:=Na V W.heap.size 11 0 (Ja ax Uc);have z12:=Na V W.heap.size 12 0 (Ja ax Uc);have z13:=Nb V W.heap.size 13 (.slice none 0 0) (Ja ax Uc);have z14:=Nb V W.heap.size 14 (.slice none 0 0) (Ja ax Uc);have z15:=Nb V W.heap.size 15 (.slice none 0 0) (Ja ax Uc);have z16:=Na V W.heap.size 16 0 (Ja ax Uc);have z17:=Na V W.heap.size 17 0 (Ja ax Uc);have y0:=Na V (W.heap.size+1) 0 0 (Ja ax Uc);have y1:=Na V (W.heap.size+1) 1 0 (Ja ax Uc);have y2:=Na V (W.heap.size+1) 2 0 (Ja ax Uc);have zf:∀o,V.frozen? ⟨W.heap.size,o,none⟩=false:=fun o=>(Jf ax _ _ Ud).trans Uc;have yf:∀o,V.frozen? ⟨W.heap.size+1,o,none⟩=false:=fun o=>(Jf ax _ _ Ud).trans Uc;have oG:=Kqh W V [.string ⟨#[]⟩,.slice none 0 0,.slice none 0 0,.slice none 0 0,.slice none 0 0,.int .u32 0,.int .u32 0,.int .i64 0,.int .i64 0,.int .i64 0,.int .i64 0,.int .i64 0,.int .i64 0,.slice none 0 0,.slice none 0 0,.slice none 0 0,.int .i64 0,.int .i64 0] [.int .i64 0,.int .i64 0,.int .i64 0] 57 32 Uh Uh ax;have hnq:=Ksw W V _ _ 57 32 Ksp Ks7 ax;have hpr:=aY.later hb12;have HPR:=Nf hpr;have HNQ:=Nf hnq
 have hZ:∀i,i<([.string ⟨#[]⟩,.slice none 0 0,.slice none 0 0,.slice none 0 0,.slice none 0 0,.int .u32 0,.int .u32 0,.int .i64 0,.int .i64 0,.int .i64 0,.int .i64 0,.int .i64 0,.int .i64 0,.slice none 0 0,.slice none 0 0,.slice none 0 0,.int .i64 0,.int .i64 0]:List Value).length->∃u,V.cell? ⟨W.heap.size,i,none⟩=some u:=fun i hi=>
  ⟨_,Ja ax (J4 ((Kw W _ _ i).trans U1))⟩
 have hY:∀i,i<([.int .i64 0,.int .i64 0,.int .i64 0]:List Value).length->∃u,V.cell? ⟨W.heap.size+1,i,none⟩=some u:=fun i hi=>
  ⟨_,Ja ax ((Kmc _ _ _ Uh i).trans Vq)⟩
 have HZ:=Nf hZ;have HY:=Nf hY;have HIM:=Nf (him.later fk);have io:=fk.size;have bI:=ltA W 1 w1;have aD:=lt0 w1 w2;have fD:w2.heap.size+1<V.heap.size:=Mj;have HNO:=Nf oG;clear hV fk hb12 ax ac aq him aY mz oG hnq hpr HGI hp hZ hY
 go_region_law (fail)
 all_goals
  go_wp2_with fail
  refine Zc fun F hF=>?_;obtain⟨X,hX,Y,hY2,hF2⟩:∃X,X=Koi V W.heap.size 0 [.string p.name,.slice A1 p.ins.length c1,.slice A2 p.outs.length c2,.slice A3 p.locals.length c3,.slice A4 p.eqs.length c4,.int .u32 M.ver,.int .u32 M.fro,.int .i64 M.eld,.int .i64 M.fr.s,.int .i64 M.fr.o,.int .i64 M.fr.n,.int .i64 M.fr.i,.int .i64 M.fr.u,.slice D1 M.first.length e1,.slice D2 M.step.length e2,.slice D3 M.move.length e3,.int .i64 M.sf,.int .i64 M.mf]/\∃Y,Y=Koi X (W.heap.size+1) 0 [.int .i64 k1,.int .i64 k2,.int .i64 k3]/\F=Y.drew:=⟨_,rfl,_,rfl,hF⟩;clear hF;have aS:W.heap.size≠W.heap.size+1:=Ua
  have cX:∀(j:Nat) (u:Value),([.string p.name,.slice A1 p.ins.length c1,.slice A2 p.outs.length c2,.slice A3 p.locals.length c3,.slice A4 p.eqs.length c4,.int .u32 M.ver,.int .u32 M.fro,.int .i64 M.eld,.int .i64 M.fr.s,.int .i64 M.fr.o,.int .i64 M.fr.n,.int .i64 M.fr.i,.int .i64 M.fr.u,.slice D1 M.first.length e1,.slice D2 M.step.length e2,.slice D3 M.move.length e3,.int .i64 M.sf,.int .i64 M.mf]:List Value)[j]?=some u->X.cell? ⟨W.heap.size,j,none⟩=some u:=fun j u hj=>by
   exact Be
  have bX:∀b,b≠W.heap.size->X.heap[b]?=V.heap[b]?:=fun b hb=>Sn
  have cY:∀(j:Nat) (u:Value),([.int .i64 k1,.int .i64 k2,.int .i64 k3]:List Value)[j]?=some u->Y.cell? ⟨W.heap.size+1,j,none⟩=some u:=fun j u hj=>by
   exact Bx
  have bY:∀b,b≠W.heap.size+1->Y.heap[b]?=X.heap[b]?:=fun b hb=>Sl;have hbX:=Nd W X Mv;have hbY:=Nd W Y Mk;clear hX hY2
  have hz:∀(j:Nat) (u:Value),([.string p.name,.slice A1 p.ins.length c1,.slice A2 p.outs.length c2,.slice A3 p.locals.length c3,.slice A4 p.eqs.length c4,.int .u32 M.ver,.int .u32 M.fro,.int .i64 M.eld,.int .i64 M.fr.s,.int .i64 M.fr.o,.int .i64 M.fr.n,.int .i64 M.fr.i,.int .i64 M.fr.u,.slice D1 M.first.length e1,.slice D2 M.step.length e2,.slice D3 M.move.length e3,.int .i64 M.sf,.int .i64 M.mf]:List Value)[j]?=some u->F.cell? ⟨W.heap.size,j,none⟩=some u:=fun j u hj=>by
   exact Ubn
  have hy:∀(j:Nat) (u:Value),([.int .i64 k1,.int .i64 k2,.int .i64 k3]:List Value)[j]?=some u->F.cell? ⟨W.heap.size+1,j,none⟩=some u:=fun j u hj=>by
   rw [hF2];exact(Xi _ _).trans (cY j u hj)
  have hbF:=Nd W F (by rw [hF2];exact Jh hbY)
  have himF:Jd5 F M ⟨D1,e1,D2,e2,D3,e3⟩:=HIM.out.aside fun b o k hk=>by
   exact Ubi
  have hprF:Kr F p ⟨A1,c1,A2,c2,A3,c3,A4,c4⟩:=HPR.out.past (fun b o k hk=>by
   rw [hF2];exact(bY b (fun he=>HNO.out.2 o k (he ▸ hk))).trans (bX b (fun he=>HNO.out.1 o k (he ▸ hk)))) fun b o s k hk hk'=>by
   rw [hF2];exact(bY b (fun he=>HNQ.out.2 o s k (he ▸ hk) (he ▸ hk'))).trans (bX b (fun he=>HNQ.out.1 o s k (he ▸ hk) (he ▸ hk')))
  clear hF2;exact Nv (v:= .tuple #[srV p.name A1 p.ins.length c1 A2 p.outs.length c2 A3 p.locals.length c3 A4 p.eqs.length c4 M ⟨D1,e1,D2,e2,D3,e3⟩,fV (k1,k2,k3)]) (Kol rfl [.string p.name,.slice A1 p.ins.length c1,.slice A2 p.outs.length c2,.slice A3 p.locals.length c3,.slice A4 p.eqs.length c4,.int .u32 M.ver,.int .u32 M.fro,.int .i64 M.eld,.int .i64 M.fr.s,.int .i64 M.fr.o,.int .i64 M.fr.n,.int .i64 M.fr.i,.int .i64 M.fr.u,.slice D1 M.first.length e1,.slice D2 M.step.length e2,.slice D3 M.move.length e3,.int .i64 M.sf,.int .i64 M.mf] [.int .i64 k1,.int .i64 k2,.int .i64 k3] rfl rfl Ue Ue Ue Ue hz hy) rfl ⟨⟨⟨A1,c1,A2,c2,A3,c3,A4,c4⟩,⟨D1,e1,D2,e2,D3,e3⟩,rfl,himF,hprF⟩,hbF⟩
end Go.Proofs.YtdgjplldlfeolaaGreatDoor
