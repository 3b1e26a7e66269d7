/- Lemmas. -/
import Derived.Test.YtknfcamdfdfoeaaGreatDoorMac
import Derived.Test.YtknfcamdfdfoeaaGreatDoorZ34
import Derived.Test.YtknfcamdfdfoeaaGreatDoorZ35
import Derived.Test.YtknfcamdfdfoeaaGreatDoorZ33
import Derived.Test.YtknfcamdfdfoeaaGreatDoorZ21
import Derived.Test.YtknfcamdfdfoeaaGreatDoorZ20
import Derived.Test.YtknfcamdfdfoeaaGreatDoorZ22
import Derived.Test.YtknfcamdfdfoeaaGreatDoorZ31
set_option linter.unusedVariables false
set_option linter.unusedSimpArgs false
set_option maxRecDepth 100000
set_option maxHeartbeats 64000000
namespace Go.Proofs.YtknfcamdfdfoeaaGreatDoor
open Go.RowKit Go.Sort Go.Maps Go.ChangeMaps Go.WideMaps
theorem Qd.toG {P:Program} {k e:TypeId} {K:Type} {ok:K->Prop} {kl:K->Lit} {W:World} {b n c:Nat} {f:K->Option Int} (h:Qd P k (plainElem P e) ok kl okI (Lit.int .i32) 0 W b n f c):Q3 P k e .i32 ok kl W b n f c:=by
 obtain⟨D,h1,h2,h3,h4⟩:=h;exact⟨D,h1,h2,h3,fun x hx=>(h4 x hx).1⟩
theorem Jfw.plan {W:World} {X Bs Bt Bf:Nat} {L:List Va} {cs:List Ce} {A:Option Addr} {cap:Nat} (h:Jfw W X Bs Bt Bf L cs A cap) (hn:(L.map (·.name)).Nodup) (hf:∀d,okC d->(Jeg cs d).getD 0=Kg cs d):Jb1 W X Bs Bf (Xu L) (Kg cs):=by
 obtain⟨c,gM⟩:=h.flags;exact⟨h.c0,h.c2,⟨_,_,_,h.slots.toG,fun s _=>by rw [Jrw s L hn];rfl⟩,⟨_,_,_,gM.toG,hf⟩⟩
theorem Jfw.later {W W':World} {X Bs Bt Bf:Nat} {L:List Va} {cs:List Ce} {A:Option Addr} {cap:Nat} (h:Jfw W X Bs Bt Bf L cs A cap) (hb:Below W.heap.size W W'):Jfw W' X Bs Bt Bf L cs A cap:=by
 obtain⟨c0,c1,c2,c3,s,k,⟨c,f⟩⟩:=h;exact⟨Ja hb c0,Ja hb c1,Ja hb c2,Ja hb c3,s.bel hb,k.bel hb,⟨c,f.bel hb⟩⟩
theorem Jcm (op n:Int) (w:World):Calls Tryz.prog 21 #[.int .i64 op,.int .i32 n] w fun r w'=>(∃g,r = .returned (.slice (some ⟨g,0,none⟩) 1 1)/\J3 w' [(op,n)] (some ⟨g,0,none⟩) 1)/\Below w.heap.size w w':=by
 refine(Jak op n w).mono ?_;rintro r w' ⟨⟨rfl,ae⟩,hb⟩;exact⟨⟨_,rfl,J3.one ae⟩,hb⟩
theorem Jl7 (l1 l2:List (Int×Int)) (A1:Option Addr) (c1:Nat) (A2:Option Addr) (c2:Nat) (w:World) (t:TypeId) (h1:J3 w l1 A1 c1) (h2:J3 w l2 A2 c2) (hl:l1.length+l2.length<=1000000) :
  Calls Tryz.prog 20 #[.slice (some ⟨w.heap.size,0,none⟩) 2 2] (w.alloc (.cells #[.slice A1 l1.length c1,.slice A2 l2.length c2] t)) (Jci w (l1 ++ l2)):=by
 have h:=Jc0 [⟨l1,A1,c1⟩,⟨l2,A2,c2⟩] (some ⟨w.heap.size,0,none⟩) 2 (w.alloc (.cells #[.slice A1 l1.length c1,.slice A2 l2.length c2] t))
  (Jan rfl fun x hx=>by
   simp only [List.mem_cons,List.not_mem_nil,or_false] at hx
   rcases hx with rfl|rfl
   ·exact h1
   ·exact h2)
  Gj Ul
 rw [show Qu [⟨l1,A1,c1⟩,⟨l2,A2,c2⟩]=l1 ++ l2 by simp [Qu]] at h;exact h.mono fun r w' hc=>hc.at.less (Jc (Below.refl _ _) _)
theorem Jxf (l1 l2 l3:List (Int×Int)) (A1:Option Addr) (c1:Nat) (A2:Option Addr) (c2:Nat) (A3:Option Addr) (c3:Nat) (w:World) (t:TypeId) (h1:J3 w l1 A1 c1) (h2:J3 w l2 A2 c2) (h3:J3 w l3 A3 c3) (hl:l1.length+l2.length+l3.length<=1000000) :
  Calls Tryz.prog 20 #[.slice (some ⟨w.heap.size,0,none⟩) 3 3] (w.alloc (.cells #[.slice A1 l1.length c1,.slice A2 l2.length c2,.slice A3 l3.length c3] t)) (Jci w (l1 ++ l2 ++ l3)):=by
 have h:=Jc0 [⟨l1,A1,c1⟩,⟨l2,A2,c2⟩,⟨l3,A3,c3⟩] (some ⟨w.heap.size,0,none⟩) 3 (w.alloc (.cells #[.slice A1 l1.length c1,.slice A2 l2.length c2,.slice A3 l3.length c3] t))
  (Jan rfl fun x hx=>by
   simp only [List.mem_cons,List.not_mem_nil,or_false] at hx
   rcases hx with rfl|rfl|rfl
   ·exact h1
   ·exact h2
   ·exact h3)
  Gj Ul
 rw [show Qu [⟨l1,A1,c1⟩,⟨l2,A2,c2⟩,⟨l3,A3,c3⟩]=l1 ++ l2 ++ l3 by simp [Qu]] at h;exact h.mono fun r w' hc=>hc.at.less (Jc (Below.refl _ _) _)
def Jme:Value:= .agg #[.int .i64 0,.int .i64 0,.int .i64 0,.int .i64 0,.int .i64 0]
theorem Jrb (p:Pr) (a:PrA) (w:World) (hg:Ql w) (hp:Kr w p a) (aw:Q4 p) (n1:p.ins.length<=1000000) (n2:p.outs.length<=1000000) (n3:p.locals.length<=1000000) (n4:p.eqs.length<=1000000) (hf:(Kf p).2≠(0,0,0)) :
  Calls Tryz.prog 8 #[prV p a] w fun r w'=>r = .returned (.tuple #[.slice none 0 0,Jme,fV (Kf p).2])/\Below w.heap.size w w':=by
 have ah:=fun W h=>Jf8 p a W (hg.later h) (hp.later h) aw n1 n2 n3 n4
 have ss:(Kf p).1 = []:=by
  rcases Je5 p with ⟨h1,h2⟩|⟨h1,h2,h3⟩
  ·exact h2
  ·rw [h3] at hf;exact absurd rfl hf
 have aS:((Kf p).2.1 == 0 && (Kf p).2.2.1 == 0 && (Kf p).2.2.2 == 0)=false:=by
  exact Ub9
 have dp:∀w,(Op.equalIn 10000 34 (.agg #[.int .i64 (Kf p).2.1,.int .i64 (Kf p).2.2.1,.int .i64 (Kf p).2.2.2]) (.agg #[.int .i64 0,.int .i64 0,.int .i64 0])).run Tryz.prog w = .ok false w:=fun w=>by rw [Zr,aS]
 have fM:Tryz.prog.eqGuardType Tryz.prog.depth 34=false:=Ug;clear hf aS;rw [ss] at ah;obtain⟨A1,c1,A2,c2,A3,c3,A4,c4⟩:=a;unfold prV fV at *;dsimp only at *;generalize (Kf p).2.1=k1 at *;generalize (Kf p).2.2.1=k2 at *;generalize (Kf p).2.2.2=k3 at *;clear hg hp aw;unfold Jme
 go_enter Tryz.func8,Tryz.ntmps8
 go_wp2_with (first|(go_at_call 18;refine(ah _ Jb).mono ?_;rintro r wa ⟨⟨v,rfl,ae⟩,aA⟩;obtain⟨Ac,cc,rfl,oS,nx⟩:=Jv ae;have aW:=Jg aA;have bS:=Jf aA;have cN:w.heap.size+3<=wa.heap.size:=Ut;have dG:w.heap.size<wa.heap.size:=Ua;have aX:w.heap.size+1<wa.heap.size:=Ua;have eJ:w.heap.size+1+1<wa.heap.size:=Ua))
 refine Jo fun W0 ag=>?_;have ax:Below w.heap.size w W0:=Uo;have aQ:Below wa.heap.size wa W0:=Uo;have g0:W0.cell? ⟨w.heap.size+1,0,none⟩=some (.int .i64 0):=Ja aQ Udi;have f0:W0.frozen? ⟨w.heap.size+1,0,none⟩=false:=(Jf aQ _ _ aX).trans ((bS _ _ Ul).trans Uq);have g1:W0.cell? ⟨w.heap.size+1,1,none⟩=some (.int .i64 0):=Ja aQ Udi;have f1:W0.frozen? ⟨w.heap.size+1,1,none⟩=false:=(Jf aQ _ _ aX).trans ((bS _ _ Ul).trans Uq);have g2:W0.cell? ⟨w.heap.size+1,2,none⟩=some (.int .i64 0):=Ja aQ Udi;have f2:W0.frozen? ⟨w.heap.size+1,2,none⟩=false:=(Jf aQ _ _ aX).trans ((bS _ _ Ul).trans Uq);have g3:W0.cell? ⟨w.heap.size+1,3,none⟩=some (.int .i64 0):=Ja aQ Udi;have f3:W0.frozen? ⟨w.heap.size+1,3,none⟩=false:=(Jf aQ _ _ aX).trans ((bS _ _ Ul).trans Uq);have g4:W0.cell? ⟨w.heap.size+1,4,none⟩=some (.int .i64 0):=Ja aQ Udi;have f4:W0.frozen? ⟨w.heap.size+1,4,none⟩=false:=(Jf aQ _ _ aX).trans ((bS _ _ Ul).trans Uq);have d0:W0.cell? ⟨w.heap.size+1+1,0,none⟩=some (.int .i64 0):=Ja aQ Udi;have e0:W0.frozen? ⟨w.heap.size+1+1,0,none⟩=false:=(Jf aQ _ _ eJ).trans ((bS _ _ Ul).trans Uq);have q0:W0.cell? ⟨wa.heap.size,0,none⟩=some (.int .i64 k1):=Uc;have d1:W0.cell? ⟨w.heap.size+1+1,1,none⟩=some (.int .i64 0):=Ja aQ Udi;have e1:W0.frozen? ⟨w.heap.size+1+1,1,none⟩=false:=(Jf aQ _ _ eJ).trans ((bS _ _ Ul).trans Uq);have q1:W0.cell? ⟨wa.heap.size,1,none⟩=some (.int .i64 k2):=Uc;have d2:W0.cell? ⟨w.heap.size+1+1,2,none⟩=some (.int .i64 0):=Ja aQ Udi;have e2:W0.frozen? ⟨w.heap.size+1+1,2,none⟩=false:=(Jf aQ _ _ eJ).trans ((bS _ _ Ul).trans Uq);have q2:W0.cell? ⟨wa.heap.size,2,none⟩=some (.int .i64 k3):=Uc;clear ag aW bS aA aQ ae ah oS nx
 have bW:∀(w':World) (b o:Nat) (u:Value),b≠wa.heap.size->w'.cell? ⟨wa.heap.size,0,none⟩=some (.int .i64 k1)/\w'.cell? ⟨wa.heap.size,1,none⟩=some (.int .i64 k2)/\w'.cell? ⟨wa.heap.size,2,none⟩=some (.int .i64 k3)->(w'.setCell ⟨b,o,none⟩ u).cell? ⟨wa.heap.size,0,none⟩=some (.int .i64 k1)/\(w'.setCell ⟨b,o,none⟩ u).cell? ⟨wa.heap.size,1,none⟩=some (.int .i64 k2)/\(w'.setCell ⟨b,o,none⟩ u).cell? ⟨wa.heap.size,2,none⟩=some (.int .i64 k3):=fun w' b o u hb ⟨h1,h2,h3⟩=>
  ⟨(World.cell?_setCell_other _ _ _ _ Lf).trans h1,(World.cell?_setCell_other _ _ _ _ Lf).trans h2,(World.cell?_setCell_other _ _ _ _ Lf).trans h3⟩
 have gQ:=Lib.hid bW;have oT:∀w':World,w'.cell? ⟨wa.heap.size,0,none⟩=some (.int .i64 k1)/\w'.cell? ⟨wa.heap.size,1,none⟩=some (.int .i64 k2)/\w'.cell? ⟨wa.heap.size,2,none⟩=some (.int .i64 k3)->w'.drew.cell? ⟨wa.heap.size,0,none⟩=some (.int .i64 k1)/\w'.drew.cell? ⟨wa.heap.size,1,none⟩=some (.int .i64 k2)/\w'.drew.cell? ⟨wa.heap.size,2,none⟩=some (.int .i64 k3):=fun _ h=>h;have HD:=Lib.hid oT;clear bW oT;have ar:W0.drew.cell? ⟨wa.heap.size,0,none⟩=some (.int .i64 k1)/\W0.drew.cell? ⟨wa.heap.size,1,none⟩=some (.int .i64 k2)/\W0.drew.cell? ⟨wa.heap.size,2,none⟩=some (.int .i64 k3):=⟨q0,q1,q2⟩;refine Kd (fun w'=>w'.cell? ⟨wa.heap.size,0,none⟩=some (.int .i64 k1)/\w'.cell? ⟨wa.heap.size,1,none⟩=some (.int .i64 k2)/\w'.cell? ⟨wa.heap.size,2,none⟩=some (.int .i64 k3)) 4 1 Ug Gd ?_;simp only [List.size_toArray,List.length_cons,List.length_nil,Nat.zero_add,Nat.reduceAdd];refine Ji 0 ar ?_;refine Ji 1 ar ?_;refine Ji 2 ar ?_;refine Kb 3 ?_;refine Jj fun K hK=>?_;go_simp;have oy:=HD.out _ (gQ.out _ (w.heap.size+1) 4 (.int .i64 0) Ua (gQ.out _ (w.heap.size+1) 3 (.int .i64 0) Ua (gQ.out _ (w.heap.size+1) 2 (.int .i64 0) Ua (gQ.out _ (w.heap.size+1) 1 (.int .i64 0) Ua (gQ.out W0 (w.heap.size+1) 0 (.int .i64 0) Ua ⟨q0,q1,q2⟩)))));refine hK _ _ ⟨oy,Kh Ug ?_⟩;clear hK K
 try simp only [Act.put,sa1,sa2,sa3]
 refine Jgr fun W1 bt=>?_;have ac:Below w.heap.size w W1:=by rw [bt];exact Jh (Jdj _ _ _ _ _ ax Ua)
 obtain⟨r0,r1,r2,r3,r4⟩:=Jsy (W:=W0) (.int .i64 0) (.int .i64 0) (.int .i64 0) (.int .i64 0) (.int .i64 0) g0 g1 g2 g3 g4;have R:∀b o,W1.cell? ⟨b,o,none⟩=(((((W0.setCell ⟨w.heap.size+1,0,none⟩ (.int .i64 0)).setCell ⟨w.heap.size+1,1,none⟩ (.int .i64 0)).setCell ⟨w.heap.size+1,2,none⟩ (.int .i64 0)).setCell ⟨w.heap.size+1,3,none⟩ (.int .i64 0)).setCell ⟨w.heap.size+1,4,none⟩ (.int .i64 0)).cell? ⟨b,o,none⟩:=fun b o=>by rw [bt,Xi]
 have RF:∀p,W1.frozen? p=W0.frozen? p:=fun p=>by
  rw [bt,Jdn];exact Ji7 (W:=W0) (b:=w.heap.size+1) _ _ _ _ _ p
 have s0:=(R _ _).trans r0;have s1:=(R _ _).trans r1;have s2:=(R _ _).trans r2;have s3:=(R _ _).trans r3;have s4:=(R _ _).trans r4;have t0:=((R _ _).trans (Q8 _ _ _ _ _ Ua)).trans d0;have t1:=((R _ _).trans (Q8 _ _ _ _ _ Ua)).trans d1;have t2:=((R _ _).trans (Q8 _ _ _ _ _ Ua)).trans d2;have z0:=(RF _).trans e0;have z1:=(RF _).trans e1;have z2:=(RF _).trans e2;clear bt R RF r0 r1 r2 r3 r4 oy ar q0 q1 q2 g0 g1 g2 g3 g4 f0 f1 f2 f3 f4 d0 d1 d2 e0 e1 e2 gQ HD;refine Qx 4 ?_;refine Jj fun K hK=>?_;go_simp;refine hK _ _ ?_;clear hK K
 try simp only [Act.put,sa1,sa2,sa3]
 refine Ki Ug ?_;refine Zc fun W2 gi=>?_;obtain⟨r0,r1,r2⟩:=Jp5 (W:=W1) (.int .i64 k1) (.int .i64 k2) (.int .i64 k3) t0 t1 t2;have R:∀b o,W2.cell? ⟨b,o,none⟩=(((W1.setCell ⟨w.heap.size+1+1,0,none⟩ (.int .i64 k1)).setCell ⟨w.heap.size+1+1,1,none⟩ (.int .i64 k2)).setCell ⟨w.heap.size+1+1,2,none⟩ (.int .i64 k3)).cell? ⟨b,o,none⟩:=fun b o=>by rw [gi]
 have aq:Below w.heap.size w W2:=Udu;have x0:=(R _ _).trans r0;have x1:=(R _ _).trans r1;have x2:=(R _ _).trans r2;have y0:=((R _ _).trans (Qy _ _ _ Ua)).trans s0;have y1:=((R _ _).trans (Qy _ _ _ Ua)).trans s1;have y2:=((R _ _).trans (Qy _ _ _ Ua)).trans s2;have y3:=((R _ _).trans (Qy _ _ _ Ua)).trans s3;have y4:=((R _ _).trans (Qy _ _ _ Ua)).trans s4;clear gi R r0 r1 r2 s0 s1 s2 s3 s4 t0 t1 t2 z0 z1 z2
 go_wp2_with fail
 exact bodyPost_ret (v:= .tuple #[.slice none 0 0,.agg #[.int .i64 0,.int .i64 0,.int .i64 0,.int .i64 0,.int .i64 0],.agg #[.int .i64 k1,.int .i64 k2,.int .i64 k3]]) G1 rfl ⟨rfl,aq⟩
theorem Jwq (l1 l2 l3:List (Int×Int)) (A1:Option Addr) (c1:Nat) (A2:Option Addr) (c2:Nat) (A3:Option Addr) (c3:Nat) (w:World) (t:TypeId) (h1:J3 w l1 A1 c1) (h2:J3 w l2 A2 c2) (h3:J3 w l3 A3 c3) (hl:l1.length+l2.length+l3.length<=1000000) :
  Calls Tryz.prog 20 #[.slice (some ⟨w.heap.size,0,none⟩) 3 3] (w.alloc (.cells #[.slice A1 l1.length c1,.slice A2 l2.length c2,.slice A3 l3.length c3] t)) (X9 w (l1 ++ l2 ++ l3)):=by
 have h:=Jc0 [⟨l1,A1,c1⟩,⟨l2,A2,c2⟩,⟨l3,A3,c3⟩] (some ⟨w.heap.size,0,none⟩) 3 (w.alloc (.cells #[.slice A1 l1.length c1,.slice A2 l2.length c2,.slice A3 l3.length c3] t))
  (Jan rfl fun x hx=>by
   simp only [List.mem_cons,List.not_mem_nil,or_false] at hx
   rcases hx with rfl|rfl|rfl
   ·exact h1
   ·exact h2
   ·exact h3)
  Gj Ul
 rw [show Qu [⟨l1,A1,c1⟩,⟨l2,A2,c2⟩,⟨l3,A3,c3⟩]=l1 ++ l2 ++ l3 by simp [Qu]] at h;exact h.mono fun r w' hc=>hc.less (Jc (Below.refl _ _) _)
def Jgs (p:Pr) (w:World) (r:Ending) (w':World):Prop:=
 (if 600<(Xs p).length then r = .returned (.tuple #[.slice none 0 0,Jme,fV (4,0,3)])
 else ∃v,r = .returned (.tuple #[v,.agg #[.int .i64 ((Je p).length:Nat),.int .i64 ((Jq p).length:Nat),.int .i64 ((Jq p).length:Nat),.int .i64 (p.ins.length:Nat),.int .i64 (p.outs.length:Nat)],fV (0,0,0)])/\w'.ownsRow w.heap.size 59 2 v (Xs p).length (cdC (Xs p)))/\Below w.heap.size w w'
theorem Qd.lenRun {P:Program} {k e:TypeId} {R:Value->Option (DataW Unit×List MemPlace)} {K V:Type} {ok:K->Prop} {kl:K->Lit} {okv:V->Prop} {vl:V->Lit} {z:V} {w:World} {b n c:Nat} {f:K->Option V}
  (h:Qd P k R ok kl okv vl z w b n f c) {t:TypeId} (ht:P.underlying t=some (.map k e)) (ty:TypeId):(Builtin.len_ #[t] ty #[.map (some b)]).run P w = .ok (.int .i64 c) w:=by
 obtain⟨D,h1,h2,hc,_⟩:=h;rw [h1.len ht ty,hc]
theorem Qd.cellsNo {P:Program} {k:TypeId} {R:Value->Option (DataW Unit×List MemPlace)} {K V:Type} {ok:K->Prop} {kl:K->Lit} {okv:V->Prop} {vl:V->Lit} {z:V} {w:World} {b n c:Nat} {f:K->Option V}
  (h:Qd P k R ok kl okv vl z w b n f c) {o:Nat} {v:Value} (hc:w.cell? ⟨b,o,none⟩=some v):False:=by
 obtain⟨D,⟨es,clock,hh,_⟩,_⟩:=h;simp [World.cell?,hh] at hc
theorem Jt3 (W:World):W.drew.heap=W.heap:=rfl
theorem Jz4 {wz w wa:World} {X Bs n:Nat} {u1 u2 v0 v1 v2 v3 v4 k1 k2 k3:Value} (hX:X≠w.heap.size+1) (x0:wz.cell? ⟨X,0,none⟩=some (.map (some Bs))) (p1:wz.cell? ⟨w.heap.size,1,none⟩=some u1) (p2:wz.cell? ⟨w.heap.size,2,none⟩=some u2)
  (q0:wz.cell? ⟨wa.heap.size,0,none⟩=some k1) (q1:wz.cell? ⟨wa.heap.size,1,none⟩=some k2) (q2:wz.cell? ⟨wa.heap.size,2,none⟩=some k3) (ha:wa.heap.size≠w.heap.size+1) (hw:w.heap.size≠w.heap.size+1)
  (hl:∀w',w'.heap[Bs]?=wz.heap[Bs]?->(Builtin.len_ #[68] 3 #[.map (some Bs)]).run Tryz.prog w' = .ok (.int .i64 (n:Nat)) w') (nB:Bs≠w.heap.size+1) :
  (fun w':World=>w'.cell? ⟨X,0,none⟩=some (.map (some Bs))/\w'.cell? ⟨w.heap.size,1,none⟩=some u1/\w'.cell? ⟨w.heap.size,2,none⟩=some u2/\w'.cell? ⟨wa.heap.size,0,none⟩=some k1/\w'.cell? ⟨wa.heap.size,1,none⟩=some k2/\w'.cell? ⟨wa.heap.size,2,none⟩=some k3/\(Builtin.len_ #[68] 3 #[.map (some Bs)]).run Tryz.prog w' = .ok (.int .i64 (n:Nat)) w')
   (((((wz.setCell ⟨w.heap.size+1,0,none⟩ v0).setCell ⟨w.heap.size+1,1,none⟩ v1).setCell ⟨w.heap.size+1,2,none⟩ v2).setCell ⟨w.heap.size+1,3,none⟩ v3).setCell ⟨w.heap.size+1,4,none⟩ v4).drew:=by
 have hh:(((((wz.setCell ⟨w.heap.size+1,0,none⟩ v0).setCell ⟨w.heap.size+1,1,none⟩ v1).setCell ⟨w.heap.size+1,2,none⟩ v2).setCell ⟨w.heap.size+1,3,none⟩ v3).setCell ⟨w.heap.size+1,4,none⟩ v4).heap[Bs]?=wz.heap[Bs]?:=by
  rw [heap_setCell_other _ _ _ _ nB,heap_setCell_other _ _ _ _ nB,heap_setCell_other _ _ _ _ nB,heap_setCell_other _ _ _ _ nB,heap_setCell_other _ _ _ _ nB]
 refine⟨?_,?_,?_,?_,?_,?_,?_⟩
 ·rw [Xi,Q8 _ _ _ _ _ hX];exact x0
 ·rw [Xi,Q8 _ _ _ _ _ hw];exact p1
 ·rw [Xi,Q8 _ _ _ _ _ hw];exact p2
 ·rw [Xi,Q8 _ _ _ _ _ ha];exact q0
 ·rw [Xi,Q8 _ _ _ _ _ ha];exact q1
 ·rw [Xi,Q8 _ _ _ _ _ ha];exact q2
 ·refine hl _ ?_;rw [Jt3];exact hh
structure Jzs (w W wz:World) (p:Pr) (A1 A2:Option Addr) (c1 c2:Nat) (wa:World) (X Bs:Nat):Prop where
 bel:Below w.heap.size w wz
 z1:w.heap.size+3<=wz.heap.size
 z2:wa.heap.size<wz.heap.size
 g:wz.cell? ⟨w.heap.size+1,0,none⟩=some (.int .i64 0)/\wz.cell? ⟨w.heap.size+1,1,none⟩=some (.int .i64 0)/\wz.cell? ⟨w.heap.size+1,2,none⟩=some (.int .i64 0)/\wz.cell? ⟨w.heap.size+1,3,none⟩=some (.int .i64 0)/\wz.cell? ⟨w.heap.size+1,4,none⟩=some (.int .i64 0)
 d:wz.cell? ⟨w.heap.size+1+1,0,none⟩=some (.int .i64 0)/\wz.cell? ⟨w.heap.size+1+1,1,none⟩=some (.int .i64 0)/\wz.cell? ⟨w.heap.size+1+1,2,none⟩=some (.int .i64 0)
 q:wz.cell? ⟨wa.heap.size,0,none⟩=some (.int .i64 0)/\wz.cell? ⟨wa.heap.size,1,none⟩=some (.int .i64 0)/\wz.cell? ⟨wa.heap.size,2,none⟩=some (.int .i64 0)
 fg:∀o,(o=0\/o=1\/o=2\/o=3\/o=4)->wz.frozen? ⟨w.heap.size+1,o,none⟩=false
 fd:∀o,(o=0\/o=1\/o=2)->wz.frozen? ⟨w.heap.size+1+1,o,none⟩=false
 p1:wz.cell? ⟨w.heap.size,1,none⟩=some (.slice A1 p.ins.length c1)
 p2:wz.cell? ⟨w.heap.size,2,none⟩=some (.slice A2 p.outs.length c2)
 x0:wz.cell? ⟨X,0,none⟩=some (.map (some Bs))
 len:∀w',w'.heap[Bs]?=wz.heap[Bs]?->(Builtin.len_ #[68] 3 #[.map (some Bs)]).run Tryz.prog w' = .ok (.int .i64 ((Je p).length:Nat)) w'
 nB:Bs≠w.heap.size+1
theorem Jqu {n:Int} (h:I64 n):IntKind.i64.wrap n=n:=by
 unfold I64 at h;exact IntWalk.i64_in _ h
theorem Jar (W:World):J3 W [] none 0:=⟨Nat.le_refl _,U2,⟨rfl,fun h=>absurd h Ul⟩⟩
theorem Jo3 (p:Pr) (a:PrA) (w:World) (hg:Ql w) (hp:Kr w p a) (aw:Q4 p) (n1:p.ins.length<=1000000) (n2:p.outs.length<=1000000) (n3:p.locals.length<=1000000) (n4:p.eqs.length<=1000000) (hS:Ks p=(0,0,0)) (dP:¬16<(Jq p).length) :
  Calls Tryz.prog 8 #[prV p a] w (Jgs p w):=by
 have bO:=Jff hS;have ah:=fun W h=>Jf8 p a W (hg.later h) (hp.later h) aw n1 n2 n3 n4;have eL:=fun W h=>Jfr p a W (hg.later h) (hp.later h) aw n1 n2 n3 n4;have dY:=Yg bO.order;rw [show Kf p=(Jq p,(0,0,0)) by unfold Kf;rw [if_pos hS,if_neg dP]] at ah
 have ny:∀v∈Je p,okS v.name/\okC (v.ck,v.cn):=fun v hv=>by
  have h:=bO.vars v hv;exact⟨by unfold okS;have:=h.name;unfold maxLen;omega,by unfold I64;have:=h.ck;dsimp only;omega,by have:=h.cn;unfold maxLen;dsimp only;omega⟩
 have nz:∀c∈Jq p,okC (c.ck,c.cn):=fun c hc=>by
  have h:=bO.cells hc;exact⟨by unfold I64;have:=h.1;dsimp only;omega,by have:=h.2.1;unfold maxLen;dsimp only;omega⟩
 have xL:=fun A cap W (h:Below w.heap.size w W) (hc:Jbh W (Jq p) A cap)=>Jxs p a (Jq p) A cap W (hp.later h) hc n1 n2 n3 Ua ny bO.nodup nz;have dp:∀w,(Op.equalIn 10000 34 (.agg #[.int .i64 0,.int .i64 0,.int .i64 0]) (.agg #[.int .i64 0,.int .i64 0,.int .i64 0])).run Tryz.prog w = .ok true w:=fun w=>So;have fM:Tryz.prog.eqGuardType Tryz.prog.depth 34=false:=Ug;have oU:=Lib.hid hp.ins;have kJ:=Lib.hid hp.outs;have qO:=Lib.hid hp.eqs;have bI:=hp.ins.len;have aD:=hp.outs.len;have cG:=hp.eqs.len;unfold maxLen at bI aD cG;have cC:=Lib.hid bO;have oV:=Lib.hid nz;have nA:=Lib.hid ny;have lN:=Lib.hid dY;obtain⟨A1,c1,A2,c2,A3,c3,A4,c4⟩:=a;unfold prV fV at *;dsimp only at *;obtain⟨tO,tP⟩:=bI;obtain⟨tQ,tR⟩:=aD;obtain⟨fT,fU⟩:=cG;clear hS hg hp aw bO nz ny dY
 go_enter Tryz.func8,Tryz.ntmps8
 go_wp2_with (first
  | (go_at_call 18;refine(ah _ Jb).mono ?_;rintro r wa ⟨⟨v,rfl,ae⟩,aA⟩;obtain⟨Ac,cc,rfl,lO⟩:=Jbh.of_own ae;clear ae;have aW:=Jg aA;have bS:=Jf aA;have cN:w.heap.size+3<=wa.heap.size:=Ut;have dG:w.heap.size<wa.heap.size:=Ua;have aX:w.heap.size+1<wa.heap.size:=Ua;have eJ:w.heap.size+1+1<wa.heap.size:=Ua;have nC:=Lib.hid lO;clear lO)
  | (go_at_call 19;go_loud (refine(xL Ac cc _ Jb (nC.out.later Jb)).mono ?_;rintro r wl ⟨⟨X,Bs,Bt,Bf,rfl,oW⟩,ij⟩;have bO:=Jg ij;have gM:=Jf ij;have su:wa.heap.size+1<=wl.heap.size:=(by have:=ij.size;simpa using this);have xM:=Lib.hid oW;clear oW)))
 refine Jo fun W hW=>?_;have dZ:Below w.heap.size w W:=Dw;have bA:Below wa.heap.size wa W:=Dw;have kK:Below wl.heap.size wl W:=Dw;have g0:W.cell? ⟨w.heap.size+1,0,none⟩=some (.int .i64 0):=Ja bA Udi;have f0:W.frozen? ⟨w.heap.size+1,0,none⟩=false:=(Jf bA _ _ aX).trans ((bS _ _ Ul).trans Uq);have g1:W.cell? ⟨w.heap.size+1,1,none⟩=some (.int .i64 0):=Ja bA Udi;have f1:W.frozen? ⟨w.heap.size+1,1,none⟩=false:=(Jf bA _ _ aX).trans ((bS _ _ Ul).trans Uq);have g2:W.cell? ⟨w.heap.size+1,2,none⟩=some (.int .i64 0):=Ja bA Udi;have f2:W.frozen? ⟨w.heap.size+1,2,none⟩=false:=(Jf bA _ _ aX).trans ((bS _ _ Ul).trans Uq);have g3:W.cell? ⟨w.heap.size+1,3,none⟩=some (.int .i64 0):=Ja bA Udi;have f3:W.frozen? ⟨w.heap.size+1,3,none⟩=false:=(Jf bA _ _ aX).trans ((bS _ _ Ul).trans Uq);have g4:W.cell? ⟨w.heap.size+1,4,none⟩=some (.int .i64 0):=Ja bA Udi;have f4:W.frozen? ⟨w.heap.size+1,4,none⟩=false:=(Jf bA _ _ aX).trans ((bS _ _ Ul).trans Uq);have p0:W.cell? ⟨w.heap.size,0,none⟩=some (.string p.name):=Ja bA Udn;have p1:W.cell? ⟨w.heap.size,1,none⟩=some (.slice A1 p.ins.length c1):=Ja bA Udn;have p2:W.cell? ⟨w.heap.size,2,none⟩=some (.slice A2 p.outs.length c2):=Ja bA Udn;have p3:W.cell? ⟨w.heap.size,3,none⟩=some (.slice A3 p.locals.length c3):=Ja bA Udn;have p4:W.cell? ⟨w.heap.size,4,none⟩=some (.slice A4 p.eqs.length c4):=Ja bA Udn;have d0:W.cell? ⟨w.heap.size+1+1,0,none⟩=some (.int .i64 0):=Ja bA Udi;have e0:W.frozen? ⟨w.heap.size+1+1,0,none⟩=false:=(Jf bA _ _ eJ).trans ((bS _ _ Ul).trans Uq);have q0:W.cell? ⟨wa.heap.size,0,none⟩=some (.int .i64 0):=Ja kK (by rw [bO _ _ Ul];go_simp);have d1:W.cell? ⟨w.heap.size+1+1,1,none⟩=some (.int .i64 0):=Ja bA Udi;have e1:W.frozen? ⟨w.heap.size+1+1,1,none⟩=false:=(Jf bA _ _ eJ).trans ((bS _ _ Ul).trans Uq);have q1:W.cell? ⟨wa.heap.size,1,none⟩=some (.int .i64 0):=Ja kK (by rw [bO _ _ Ul];go_simp);have d2:W.cell? ⟨w.heap.size+1+1,2,none⟩=some (.int .i64 0):=Ja bA Udi;have e2:W.frozen? ⟨w.heap.size+1+1,2,none⟩=false:=(Jf bA _ _ eJ).trans ((bS _ _ Ul).trans Uq);have q2:W.cell? ⟨wa.heap.size,2,none⟩=some (.int .i64 0):=Ja kK (by rw [bO _ _ Ul];go_simp);have mM:Jfw W X Bs Bt Bf (Je p) (Jq p) Ac cc:=xM.out.later kK;have mN:=mM.plan cC.out.nodup (fun d _=>Jtp d _ cC.out.flags);have sv:Jbh W (Jq p) Ac cc:=nC.out.later bA;have hwW:w.heap.size+3<=W.heap.size:=by have:=bA.size;omega
 have hwaW:wa.heap.size<W.heap.size:=by have:=kK.size;omega
 have kL:=Lib.hid mM;have oX:=Lib.hid sv;have mO:=Lib.hid mN;have X0:=mN.c0;have X1:=mM.c1;obtain⟨nS,fS,cS,hmS,hfS⟩:=mN.slots;have xN:=Lib.hid hmS;have mL:=Lib.hid hfS;clear hW aW bS bO gM aA ij xM nC ah xL mM mN sv hmS hfS dG aX eJ su;generalize dF:Xu (Je p)=sl at *;generalize gM:Kg (Jq p)=fl at *;have HINS2:=Lib.hid (Je4 sl p.ins 0)
 go_loopw [8,41] (fun h i wr=>∃(k:Nat) (A:Option Addr) (cap:Nat),k<=p.ins.length/\h = .slice A (Yh sl 0 (p.ins.take k)).length cap/\i = .int .i64 k/\Hid (J3 wr (Yh sl 0 (p.ins.take k)) A cap)/\Below W.heap.size W wr) (fun _ i _=>p.ins.length-(intOf i).toNat)
 case atStart=>exact⟨0,none,0,Nat.zero_le _,rfl,rfl,Lib.hid (Jar _),Below.refl _ _⟩
 case round=>
  obtain⟨k,A,cap,hk,rfl,rfl,hi,ab⟩:=hrel;have bu:=ab.size;have aC:Below w.heap.size w wr:=Jd dZ ab
  by_cases am:k<p.ins.length
  ·have hx:p.ins[k]?=some p.ins[k]:=List.getElem?_eq_getElem am;have aj:p.ins[k]∈p.ins:=List.getElem_mem am;have aP:p.ins.take (k+1)=p.ins.take k ++ [p.ins[k]]:=U6;generalize p.ins[k]=x at hx aj aP;have dT:=(nA.out x (by simp [Je,aj])).1
   have hI:Yh sl 0 (p.ins.take (k+1))=Yh sl 0 (p.ins.take k) ++ [(6,(k:Int))] ++ [(3,sl x.name)]:=by
    rw [aP,Jis,List.length_take,show 0+min k p.ins.length=k from by omega,List.append_assoc];rfl
   have jN:=cC.out.small.1;have hI2:(Yh sl 0 (p.ins.take k)).length<=100:=by rw [Je4,List.length_take];omega
   obtain⟨b,off,rfl,aH,⟨d0',d1',d2',d3'⟩⟩:=(oU.out.later aC).get hx;have HI:=Lib.hid hI;have xI:IntKind.i32.wrap (k:Int)=(k:Int):=Jbn Vh;have oz:=Ja ab X0;clear hx aj aP hI;generalize Yh sl 0 (p.ins.take k)=hd at *;have l2:=hi.out.1;have m2:=hi.out.2.1;unfold maxLen at m2
   go_wp2_with fail
   refine Jo fun V1 dq=>?_;have ac:Below wr.heap.size wr V1:=Dv;have z0:V1.cell? ⟨wr.heap.size,0,none⟩=some (.string x.name):=Vd;have kM:=Ja ac oz;have bK:Below W.heap.size W V1:=Jd ab ac
   have hS:∀w',Below V1.heap.size V1 w'->w'.cell? ⟨X,0,none⟩=some (.map (some Bs))/\w'.cell? ⟨wr.heap.size,0,none⟩=some (.string x.name)/\(Instr.lookup 68 (.map (some Bs)) (.string x.name) false).run Tryz.prog w' = .ok (.int .i32 (sl x.name)) w':=fun w' hb=>
    ⟨Ja hb kM,Ja hb z0,Jcb (Jc2 Tryz.underlying9) (x:= .string x.name) Tryz.underlying68 Tryz.underlying21 (Jbp _) rfl (xN.out.bel (Jd bK hb)) dT (mL.out _ dT)⟩
   have HS:=Lib.hid hS;have sw:=Lib.hid (hi.out.later ac);clear dq hS z0 kM oz d0' d1' d2' d3';have ar:=HS.out V1.drew (Jh (Below.refl _ _));refine Kd (fun w'=>w'.cell? ⟨X,0,none⟩=some (.map (some Bs))/\w'.cell? ⟨wr.heap.size,0,none⟩=some (.string x.name)/\(Instr.lookup 68 (.map (some Bs)) (.string x.name) false).run Tryz.prog w' = .ok (.int .i32 (sl x.name)) w') 14 1 Ug Gd ?_;simp only [List.size_toArray,List.length_cons,List.length_nil,Nat.zero_add,Nat.reduceAdd];refine Ji 0 ar ?_;refine Ji 1 ar ?_;refine Ji 2 ar ?_;refine Ji 4 ar ?_;refine Ji 5 ar ?_;refine Ji 6 ar ?_;refine Ji 7 ar ?_;refine Ji 8 ar ?_;refine Ji 9 ar ?_;refine Ji 10 ar ?_;refine Kb 3 ?_;refine Jj fun K hK=>?_;go_simp;refine(Jcm _ _ _).mono ?_;rintro r w1 ⟨⟨g1',rfl,dN⟩,eM⟩;dsimp only;have cT:Below V1.heap.size V1 w1:=Jd (Jh (Below.refl _ _)) eM;refine hK _ _ ⟨HS.out w1 cT,?_⟩;clear hK K
   try simp only [Act.put,sa1,sa2,sa3]
   refine Kb 11 ?_;refine Jj fun K hK=>?_;go_simp;refine(Jcm _ _ _).mono ?_;rintro r w2 ⟨⟨g2',rfl,dR⟩,iJ⟩;dsimp only;have cF:Below V1.heap.size V1 w2:=Jd cT iJ;refine hK _ _ ⟨HS.out w2 cF,?_⟩;clear hK K
   try simp only [Act.put,sa1,sa2,sa3]
   refine Kb 12 ?_;refine Jj fun K hK=>?_;go_simp;refine hK _ _ ⟨HS.out _ (Jc cF _),?_⟩;clear hK K
   try simp only [Act.put,sa1,sa2,sa3]
   refine Kb 13 ?_;refine Jj fun K hK=>?_;go_simp;refine(Jxf hd [(6,(k:Int))] [(3,sl x.name)] A cap (some ⟨g1',0,none⟩) 1 (some ⟨g2',0,none⟩) 1 w2 _ (sw.out.later cF) (dN.later iJ) dR Uj).mono ?_;rintro r w3 ⟨⟨A3',c3',rfl,iI⟩,nD⟩;dsimp only;have cZ:Below V1.heap.size V1 w3:=Jd cF nD;refine hK _ _ ⟨HS.out w3 cZ,?_⟩;clear hK K
   try simp only [Act.put,sa1,sa2,sa3]
   refine Kh Ug ?_;refine Qx 14 ?_;refine Jj fun K hK=>?_;go_simp;refine hK _ _ ?_;clear hK K
   try simp only [Act.put,sa1,sa2,sa3]
   refine Ki Ug ?_
   go_wp2_with fail
   go_roundw
   case rel=>exact⟨k+1,A3',c3',Ua,by rw [HI.out];simp,Up,Lib.hid (by rw [HI.out];exact iI),Jd bK cZ⟩
   case measure=>simp [intOf];omega
  ·obtain rfl:k=p.ins.length:=Ua;rw [List.take_length] at hi;have sy:=hi;have hH0:(Yh sl 0 p.ins).length<=100:=by rw [Je4];have:=cC.out.small.1;omega
   have yp4:wr.cell? ⟨w.heap.size,4,none⟩=some (.slice A4 p.eqs.length c4):=Ja ab p4;have xO:=ab;clear hi;rw [List.take_length];generalize hH:Yh sl 0 p.ins=H0 at *;obtain⟨W2,rfl⟩:∃W2,W2=wr:=⟨wr,rfl⟩
   go_wp2_with fail
   go_loopw [8,9,13,64] (fun h t kk i wr=>∃(k:Nat) (A:Option Addr) (cap:Nat) (A':Option Addr) (cap':Nat),k<=p.eqs.length/\h = .slice A (H0 ++ Zx sl 0 (J0 (p.eqs.take k))).length cap/\t = .slice A' (Zu sl fl (Je p) 0 (J0 (p.eqs.take k))).length cap'/\kk = .int .i32 ((J0 (p.eqs.take k)).length:Nat)/\i = .int .i64 k/\Hid (J3 wr (H0 ++ Zx sl 0 (J0 (p.eqs.take k))) A cap)/\Hid (J3 wr (Zu sl fl (Je p) 0 (J0 (p.eqs.take k))) A' cap')/\Below W.heap.size W wr) (fun _ _ _ i _=>p.eqs.length-(intOf i).toNat)
   case atStart=>exact⟨0,A,cap,none,0,Nat.zero_le _,by simp [J0,Zx],by simp [J0,Zu],by simp [J0],rfl,Lib.hid (by rw [show H0 ++ Zx sl 0 (J0 (p.eqs.take 0))=H0 by simp [J0,Zx]];exact sy.out),Lib.hid (Jar _),xO⟩
   case round=>
    obtain⟨k,A,cap,A',cap',hk,rfl,rfl,rfl,rfl,hi,mP,ab⟩:=hrel;have bu:=ab.size;have aC:Below w.heap.size w wr:=Jd dZ ab
    by_cases am:k<p.eqs.length
    ·have hx:p.eqs[k]?=some p.eqs[k]:=List.getElem?_eq_getElem am;have aj:p.eqs[k]∈p.eqs:=List.getElem_mem am;have aP:p.eqs.take (k+1)=p.eqs.take k ++ [p.eqs[k]]:=U6;generalize p.eqs[k]=q at hx aj aP;have cM:=cC.out.eqs q aj;have aN:=cC.out.clock aj;have aZ:=fun c=>cC.out.codes q aj sl fl c;obtain⟨b,off,B1,k1,B2,k2,rfl,bG,⟨d0',d1',d2',d3',d4',d5',d6',d7',d8',d9',sf,se⟩⟩:=(qO.out.later aC).get hx;have dw:okS q.name:=Mn;have eD:J0 (p.eqs.take (k+1))=J0 (p.eqs.take k) ++ (if (q.delay != 0)=true then [q] else []):=by rw [aP,Jo4]
     have ek:(J0 (p.eqs.take k)).length<=24:=by
      have:=Ja4 (p.eqs.take k);rw [List.length_take] at this;have:=cC.out.small.2.2.2;exact Ua
     have hol:(H0 ++ Zx sl 0 (J0 (p.eqs.take k))).length<=1000:=by rw [List.length_append,Jkf];omega
     have jV:(Zu sl fl (Je p) 0 (J0 (p.eqs.take k))).length<=10000:=by
      have:=Jko sl fl (Je p) (J0 (p.eqs.take k)) 0 (fun y hy c=>cC.out.codes y (List.mem_of_mem_take (Z4 hy).1) sl fl c);exact Ua
     have HDE:=Lib.hid eD
     cases tq:(q.delay == 0)
     ·have tq2:(q.delay != 0)=true:=by rw [bne,tq];rfl
      rw [if_pos tq2] at eD
      have hO:H0 ++ Zx sl 0 (J0 (p.eqs.take (k+1)))=(H0 ++ Zx sl 0 (J0 (p.eqs.take k))) ++ [(4,((J0 (p.eqs.take k)).length:Int))] ++ [(3,sl q.name)]:=by
       rw [eD,Jnd,Nat.zero_add];simp [List.append_assoc]
      have hN:Zu sl fl (Je p) 0 (J0 (p.eqs.take (k+1)))=Zu sl fl (Je p) 0 (J0 (p.eqs.take k)) ++ Qk sl (J9 (Je p) q.name) (q.e.gen sl fl (J9 (Je p) q.name) ++ [(5,((J0 (p.eqs.take k)).length:Int))]):=by
       rw [eD,Jmv,Nat.zero_add]
      have hL1:(J0 (p.eqs.take (k+1))).length=(J0 (p.eqs.take k)).length+1:=by rw [eD,List.length_append];rfl
      have HO:=Lib.hid hO;have HN:=Lib.hid hN;have HL1:=Lib.hid hL1;have ik:=Jiv q.name (Je p);rw [show(Je p).foldl (fun c v=>if q.name.data=v.name.data then(v.ck,v.cn) else c) (0,⟨#[]⟩)=J9 (Je p) q.name from rfl] at ik;have oY:=kL.out.clks;generalize (J0 (p.eqs.take k)).length=nd at *;generalize H0 ++ Zx sl 0 (J0 (p.eqs.take k))=hd at *;generalize Zu sl fl (Je p) 0 (J0 (p.eqs.take k))=td at *;generalize J9 (Je p) q.name=CK at *;obtain⟨ck,cs⟩:=CK;dsimp only at aN;have lq:okC (ck,cs):=⟨by unfold I64;dsimp only;omega,by have:=aN.1;unfold maxLen;dsimp only;omega⟩;have eS:=aZ (ck,cs);have hul:=Jb0 sl (ck,cs) (q.e.gen sl fl (ck,cs) ++ [(5,(nd:Int))]);have lP:=Jow X Bs Bf sl fl q.e cM.formed Sq B2 k2 ck cs;unfold exV at lP;have xI:IntKind.i32.wrap ((nd:Int)+1)=((nd+1:Nat):Int):=(Jbn Vh).trans Ua;have oz:=Ja ab X0;have xP:=Ja ab X1;have wE:=Lib.hid (oY.bel ab);have jW:=Lib.hid (mO.out.later ab);have tS:=Lib.hid (xN.out.bel ab);have HEX:=Lib.hid lP;have nE:=Lib.hid se;have oZ:=aN.2;clear hx aj aP eD hO hN hL1 oY lP sf se aZ
      go_wp2_with fail
      refine Jo fun V1 dq=>?_;have ac:Below wr.heap.size wr V1:=Dv;have mQ:V1.heap.size=wr.heap.size+1:=by rw [dq];simp
      have z0:V1.cell? ⟨wr.heap.size,0,none⟩=some (.string q.name):=Vd;have z6:V1.cell? ⟨wr.heap.size,6,none⟩=some (.int .i64 q.e.kind):=Vd;have z7:V1.cell? ⟨wr.heap.size,7,none⟩=some (.int .i32 q.e.n):=Vd;have z8:V1.cell? ⟨wr.heap.size,8,none⟩=some (.string q.e.name):=Vd;have z9:V1.cell? ⟨wr.heap.size,9,none⟩=some (.slice B2 q.e.sub.length k2):=Vd;have pb:=Ja ac oz;have pc:=Ja ac xP
      have hSA:∀w',Below V1.heap.size V1 w'->w'.cell? ⟨X,0,none⟩=some (.map (some Bs))/\w'.cell? ⟨wr.heap.size,0,none⟩=some (.string q.name)/\(Instr.lookup 68 (.map (some Bs)) (.string q.name) false).run Tryz.prog w' = .ok (.int .i32 (sl q.name)) w':=fun w' hb=>
       ⟨Ja hb pb,Ja hb z0,Jcb (Jc2 Tryz.underlying9) (x:= .string q.name) Tryz.underlying68 Tryz.underlying21 (Jbp _) rfl (tS.out.bel (Jd ac hb)) dw (mL.out _ dw)⟩
      have wF:∀w',Below V1.heap.size V1 w'->w'.cell? ⟨X,1,none⟩=some (.map (some Bt))/\w'.cell? ⟨wr.heap.size,0,none⟩=some (.string q.name)/\(Instr.lookup 69 (.map (some Bt)) (.string q.name) false).run Tryz.prog w' = .ok (.agg #[.int .i64 ck,.string cs]) w':=fun w' hb=>
       ⟨Ja hb pc,Ja hb z0,Ji1 (Jc2 Tryz.underlying9) Jgn Tryz.underlying69 (Jdv w') ⟨Vs,Ux⟩ (x:= .string q.name) rfl (wE.out.bel (Jd ac hb)) dw ik⟩
      have wG:=Lib.hid hSA;have wH:=Lib.hid wF;have sw:=Lib.hid (hi.out.later ac);have tT:=Lib.hid (mP.out.later ac);have bK:Below W.heap.size W V1:=Jd ab ac;have xQ:Below w.heap.size w V1:=Jd aC ac;have tU:=Lib.hid (jW.out.later ac);have l2:=hi.out.1;have m2:=hi.out.2.1;have l2':=mP.out.1;have m2':=mP.out.2.1;unfold maxLen at m2 m2';have Z6:=Lib.hid z6;have Z7:=Lib.hid z7;have Z8:=Lib.hid z8;have Z9:=Lib.hid z9;clear dq hSA wF z0 z6 z7 z8 z9 pb pc oz xP ik d0' d1' d2' d3' d4' d5' d6' d7' d8' d9';have ar:=wG.out V1.drew (Jh (Below.refl _ _));refine Kd (fun w'=>w'.cell? ⟨X,0,none⟩=some (.map (some Bs))/\w'.cell? ⟨wr.heap.size,0,none⟩=some (.string q.name)/\(Instr.lookup 68 (.map (some Bs)) (.string q.name) false).run Tryz.prog w' = .ok (.int .i32 (sl q.name)) w') 13 1 Ug Gd ?_;simp only [List.size_toArray,List.length_cons,List.length_nil,Nat.zero_add,Nat.reduceAdd];refine Ji 0 ar ?_;refine Ji 1 ar ?_;refine Ji 3 ar ?_;refine Ji 4 ar ?_;refine Ji 5 ar ?_;refine Ji 6 ar ?_;refine Ji 7 ar ?_;refine Ji 8 ar ?_;refine Ji 9 ar ?_;refine Kb 2 ?_;refine Jj fun K hK=>?_;go_simp;refine(Jcm _ _ _).mono ?_;rintro r w1 ⟨⟨g1',rfl,dN⟩,eM⟩;dsimp only;have cT:Below V1.heap.size V1 w1:=Jd (Jh (Below.refl _ _)) eM;refine hK _ _ ⟨wG.out w1 cT,?_⟩;clear hK K
      try simp only [Act.put,sa1,sa2,sa3]
      refine Kb 10 ?_;refine Jj fun K hK=>?_;go_simp;refine(Jcm _ _ _).mono ?_;rintro r w2 ⟨⟨g2',rfl,dR⟩,iJ⟩;dsimp only;have cF:Below V1.heap.size V1 w2:=Jd cT iJ;refine hK _ _ ⟨wG.out w2 cF,?_⟩;clear hK K
      try simp only [Act.put,sa1,sa2,sa3]
      refine Kb 11 ?_;refine Jj fun K hK=>?_;go_simp;refine hK _ _ ⟨wG.out _ (Jc cF _),?_⟩;clear hK K
      try simp only [Act.put,sa1,sa2,sa3]
      refine Kb 12 ?_;refine Jj fun K hK=>?_;go_simp;refine(Jxf hd [(4,(nd:Int))] [(3,sl q.name)] A cap (some ⟨g1',0,none⟩) 1 (some ⟨g2',0,none⟩) 1 w2 _ (sw.out.later cF) (dN.later iJ) dR Uj).mono ?_;rintro r w3 ⟨⟨A3',c3',rfl,iI⟩,nD⟩;dsimp only;have cZ:Below V1.heap.size V1 w3:=Jd cF nD;refine hK _ _ ⟨wG.out w3 cZ,?_⟩;clear hK K
      try simp only [Act.put,sa1,sa2,sa3]
      refine Kh Ug ?_;refine Qx 13 ?_;refine Jj fun K hK=>?_;go_simp;refine hK _ _ ?_;clear hK K
      try simp only [Act.put,sa1,sa2,sa3]
      refine Ki Ug ?_;have fe:=cZ.size;have lQ:=Lib.hid iI;have dr:=wH.out w3.drew (Jh cZ);clear ar dN dR iI eM iJ nD cT cF
      go_wp2_with fail
      refine Kd (fun w'=>w'.cell? ⟨X,1,none⟩=some (.map (some Bt))/\w'.cell? ⟨wr.heap.size,0,none⟩=some (.string q.name)/\(Instr.lookup 69 (.map (some Bt)) (.string q.name) false).run Tryz.prog w' = .ok (.agg #[.int .i64 ck,.string cs]) w') 8 1 Ug Gd ?_;simp only [List.size_toArray,List.length_cons,List.length_nil,Nat.zero_add,Nat.reduceAdd];refine Ji 0 dr ?_;refine Ji 1 dr ?_;refine Ji 2 dr ?_;refine Ji 3 dr ?_;refine Ji 4 dr ?_;refine Ji 5 dr ?_;refine Ji 6 dr ?_;refine Kb 7 ?_;refine Jj fun K hK=>?_;go_simp;refine hK _ _ ⟨wH.out _ (Jh (Jc cZ _)),?_⟩;clear hK K
      try simp only [Act.put,sa1,sa2,sa3]
      refine Kh Ug ?_;refine Qx 8 ?_;refine Jj fun K hK=>?_;go_simp;refine hK _ _ ?_;clear hK K
      try simp only [Act.put,sa1,sa2,sa3]
      refine Ki Ug ?_;refine Zc fun V2 bz=>?_;have c0':V2.cell? ⟨w3.heap.size,0,none⟩=some (.int .i64 ck):=by rw [bz,Xi];go_simp
      have c1':V2.cell? ⟨w3.heap.size,1,none⟩=some (.string cs):=by rw [bz,Xi];go_simp
      have gu:Below V1.heap.size V1 V2:=by rw [bz];exact Jh (Jc cZ _)
      have pe:Below w3.heap.size w3 V2:=by rw [bz];exact Jh (Jc (Below.refl _ _) _)
      have tV:∀w',Below V2.heap.size V2 w'->w'.cell? ⟨wr.heap.size,6,none⟩=some (.int .i64 q.e.kind)/\w'.cell? ⟨wr.heap.size,7,none⟩=some (.int .i32 q.e.n)/\w'.cell? ⟨wr.heap.size,8,none⟩=some (.string q.e.name)/\w'.cell? ⟨wr.heap.size,9,none⟩=some (.slice B2 q.e.sub.length k2)/\w'.cell? ⟨w3.heap.size,0,none⟩=some (.int .i64 ck)/\w'.cell? ⟨w3.heap.size,1,none⟩=some (.string cs):=fun w' hb=>
       ⟨Ja hb (Ja gu Z6.out),Ja hb (Ja gu Z7.out),Ja hb (Ja gu Z8.out),Ja hb (Ja gu Z9.out),Ja hb c0',Ja hb c1'⟩
      have jX:=Lib.hid tV;have qP:=Lib.hid (lQ.out.later pe);have HTV:=Lib.hid (tT.out.later gu);have xR:=Lib.hid (tU.out.later gu);have hbw4:Below w.heap.size w V2:=Jd xQ gu;have cX:Below wr.heap.size wr V2:=Jd ac gu;have dk:=tV V2.drew (Jh (Below.refl _ _));clear dr bz tV c0' c1' lQ fe wG wH
      go_wp2_with fail
      refine Kd (fun w'=>w'.cell? ⟨wr.heap.size,6,none⟩=some (.int .i64 q.e.kind)/\w'.cell? ⟨wr.heap.size,7,none⟩=some (.int .i32 q.e.n)/\w'.cell? ⟨wr.heap.size,8,none⟩=some (.string q.e.name)/\w'.cell? ⟨wr.heap.size,9,none⟩=some (.slice B2 q.e.sub.length k2)/\w'.cell? ⟨w3.heap.size,0,none⟩=some (.int .i64 ck)/\w'.cell? ⟨w3.heap.size,1,none⟩=some (.string cs)) 15 1 Ug Gd ?_;simp only [List.size_toArray,List.length_cons,List.length_nil,Nat.zero_add,Nat.reduceAdd];refine Ji 0 dk ?_;refine Ji 1 dk ?_;refine Ji 2 dk ?_;refine Ji 3 dk ?_;refine Ji 4 dk ?_;refine Ji 5 dk ?_;refine Ji 6 dk ?_;refine Ji 8 dk ?_;refine Kb 7 ?_;refine Jj fun K hK=>?_;go_simp;refine(HEX.out V2.drew (xR.out.later (Jh (Below.refl _ _))) (nE.out.later (Jh (Jd ac gu))) lq).mono ?_;rintro r w4 ⟨⟨A4',c4',rfl,qQ⟩,pg⟩;dsimp only;have qN:Below V2.heap.size V2 w4:=Jd (Jh (Below.refl _ _)) pg;refine hK _ _ ⟨jX.out w4 qN,?_⟩;clear hK K
      try simp only [Act.put,sa1,sa2,sa3]
      refine Kb 9 ?_;refine Jj fun K hK=>?_;go_simp;refine(Jcm _ _ _).mono ?_;rintro r w5 ⟨⟨g5',rfl,bP⟩,kN⟩;dsimp only;have ph:Below V2.heap.size V2 w5:=Jd qN kN;refine hK _ _ ⟨jX.out w5 ph,?_⟩;clear hK K
      try simp only [Act.put,sa1,sa2,sa3]
      refine Kb 10 ?_;refine Jj fun K hK=>?_;go_simp;refine hK _ _ ⟨jX.out _ (Jc ph _),?_⟩;clear hK K
      try simp only [Act.put,sa1,sa2,sa3]
      refine Kb 11 ?_;refine Jj fun K hK=>?_;go_simp;refine(Jl7 (q.e.gen sl fl (ck,cs)) [(5,(nd:Int))] A4' c4' (some ⟨g5',0,none⟩) 1 w5 _ (qQ.later kN) bP Uj).mono ?_;rintro r w6 ⟨⟨A6',c6',rfl,oA⟩,pi⟩;dsimp only;have hl6:(q.e.gen sl fl (ck,cs) ++ [(5,(nd:Int))]).length<=400:=F7;have nF:Below V2.heap.size V2 w6:=Jd ph pi;generalize q.e.gen sl fl (ck,cs) ++ [(5,(nd:Int))]=l6 at *;refine hK _ _ ⟨jX.out w6 nF,?_⟩;clear hK K
      try simp only [Act.put,sa1,sa2,sa3]
      refine Kb 12 ?_;refine Jj fun K hK=>?_;go_simp;refine(Jh7 X Bs Bf sl fl ck cs l6 A6' c6' w6 (xR.out.later nF) lq oZ oA Ua).mono ?_;rintro r w7 ⟨⟨A7',c7',rfl,oB⟩,pj⟩;dsimp only;have mR:Below V2.heap.size V2 w7:=Jd nF pj;refine hK _ _ ⟨jX.out w7 mR,?_⟩;clear hK K
      try simp only [Act.put,sa1,sa2,sa3]
      refine Kb 13 ?_;refine Jj fun K hK=>?_;go_simp;refine hK _ _ ⟨jX.out _ (Jc mR _),?_⟩;clear hK K
      try simp only [Act.put,sa1,sa2,sa3]
      refine Kb 14 ?_;refine Jj fun K hK=>?_;go_simp;refine(Jl7 td (Qk sl (ck,cs) l6) A' cap' A7' c7' w7 _ (HTV.out.later mR) oB Ua).mono ?_;rintro r w8 ⟨⟨A8',c8',rfl,sA⟩,pk⟩;dsimp only;have rr:Below V2.heap.size V2 w8:=Jd mR pk;refine hK _ _ ⟨jX.out w8 rr,?_⟩;clear hK K
      try simp only [Act.put,sa1,sa2,sa3]
      refine Kh Ug ?_;refine Qx 15 ?_;refine Jj fun K hK=>?_;go_simp;refine hK _ _ ?_;clear hK K
      try simp only [Act.put,sa1,sa2,sa3]
      refine Ki Ug ?_;have rs:=Lib.hid sA;have HIh:=Lib.hid (qP.out.later rr);have jh:Below W.heap.size W w8:=Jd ab (Jd cX rr);clear dk qQ bP oA oB sA jX
      go_wp2_with fail
      go_roundw
      case rel=>exact⟨k+1,A3',c3',A8',c8',Ua,by rw [HO.out];simp,by rw [HN.out];simp,by rw [HL1.out];first|(simp;done)|(congr 1;omega),Up,Lib.hid (by rw [HO.out];exact HIh.out),Lib.hid (by rw [HN.out];exact rs.out),jh⟩
      case measure=>simp [intOf];omega
     ·have tq2:(q.delay != 0)=false:=by rw [bne,tq];rfl
      rw [if_neg (by rw [tq2];decide),List.append_nil] at eD;clear hx aj aP aZ sf se aN
      go_wp2_with fail
      go_roundw
      case rel=>exact⟨k+1,A,cap,A',cap',Ua,by rw [eD],by rw [eD],by rw [eD],Up,Lib.hid (by rw [eD];exact hi.out.later (Jc (Below.refl _ _) _)),Lib.hid (by rw [eD];exact mP.out.later (Jc (Below.refl _ _) _)),Jc ab _⟩
      case measure=>simp [intOf];omega
    ·obtain rfl:k=p.eqs.length:=Ua;rw [List.take_length] at hi mP;rw [List.take_length]
     have nq:(J0 p.eqs).length<=24:=by
      have:=Ja4 p.eqs;have:=cC.out.small.2.2.2;exact Ua
     have dj:Jq p=(J0 p.eqs).map (Xm (Je p)) ++ K3 (Jad (Je p) p.eqs) (X3 (Je p)):=rfl;have hndc:(J0 p.eqs).length<=(Jq p).length:=by rw [dj,List.length_append,List.length_map];omega
     have hol:(H0 ++ Zx sl 0 (J0 p.eqs)).length<=1000:=by rw [List.length_append,Jkf];omega
     have jV:(Zu sl fl (Je p) 0 (J0 p.eqs)).length<=10000:=by
      have:=Jko sl fl (Je p) (J0 p.eqs) 0 (fun y hy c=>cC.out.codes y (Z4 hy).1 sl fl c);exact Ua
     have HCD:Hid (Xs p=H0 ++ Zx sl 0 (J0 p.eqs) ++ Xd sl fl (Je p) p.eqs (J1 p).1 ++ (Zu sl fl (Je p) 0 (J0 p.eqs) ++ Ze sl (J0 p.eqs).length ((Jq p).drop (J0 p.eqs).length) ++ Xl sl 0 p.outs)):=Lib.hid (by unfold Xs;rw [dF,gM,hH];simp [List.append_assoc]);have xS:=ab;generalize hH1:H0 ++ Zx sl 0 (J0 p.eqs)=H1 at *;generalize hT0:Zu sl fl (Je p) 0 (J0 p.eqs)=T0 at *;generalize hndd:(J0 p.eqs).length=nd at *;have xT:=hi;have HIT:=mP;obtain⟨W3,rfl⟩:∃W3,W3=wr:=⟨wr,rfl⟩;obtain⟨hcc1,oP,_⟩:=id oX.out;unfold maxLen at oP;clear hi mP dj
     go_wp2_with fail
     go_loopw [9,13] (fun t kk wr=>∃(m j:Nat) (A':Option Addr) (cap':Nat),Hid (j=nd+m)/\m<=((Jq p).drop nd).length/\t = .slice A' (T0 ++ Ze sl nd (((Jq p).drop nd).take m)).length cap'/\kk = .int .i32 (j:Int)/\Hid (J3 wr (T0 ++ Ze sl nd (((Jq p).drop nd).take m)) A' cap')/\Below W3.heap.size W3 wr) (fun _ kk _=>(Jq p).length-(intOf kk).toNat)
     case atStart=>exact⟨0,nd,A',cap',Lib.hid rfl,Nat.zero_le _,by simp [Ze],rfl,Lib.hid (by rw [show T0 ++ Ze sl nd (((Jq p).drop nd).take 0)=T0 by simp [Ze]];exact HIT.out),Below.refl _ _⟩
     case round=>
      obtain⟨m,j,A',cap',hj,hm,rfl,rfl,mP,en⟩:=hrel;have ab:Below W.heap.size W wr:=Jd xS en;have bu:=ab.size;have aC:Below w.heap.size w wr:=Jd dZ ab;have ek:((Jq p).drop nd).length=(Jq p).length-nd:=List.length_drop ..;have hjle:j<=(Jq p).length:=St;have xI:IntKind.i64.wrap (j:Int)=(j:Int):=Jqu Vs
      by_cases am:m<((Jq p).drop nd).length
      ·have dO:j<(Jq p).length:=St;have jp:(j:Int)<((Jq p).length:Int):=Ua;have hx:(Jq p)[j]?=some (Jq p)[j]:=List.getElem?_eq_getElem dO;have aj:(Jq p)[j]∈Jq p:=List.getElem_mem dO;have aP:((Jq p).drop nd).take (m+1)=((Jq p).drop nd).take m ++ [(Jq p)[j]]:=by rw [List.take_succ_eq_append_getElem am,List.getElem_drop];simp [hj.out]
       generalize (Jq p)[j]=x at hx aj aP;have xU:=cC.out.cells aj;have lq:okC (x.ck,x.cn):=oV.out x aj
       have hF:T0 ++ Ze sl nd (((Jq p).drop nd).take (m+1))=(T0 ++ Ze sl nd (((Jq p).drop nd).take m)) ++ Qk sl (x.ck,x.cn) ([(1,1)] ++ [(5,(j:Int))]):=by
        rw [aP,Jnj,List.length_take,show min m ((Jq p).drop nd).length=m from by omega,List.append_assoc,hj.out];rfl
       have tI:=Jkc sl (((Jq p).drop nd).take m) nd;rw [List.length_take] at tI;have htl:(T0 ++ Ze sl nd (((Jq p).drop nd).take m)).length<=20000:=Li;have hul:=Jb0 sl (x.ck,x.cn) ([(1,1)] ++ [(5,(j:Int))]);obtain⟨b,off,rfl,cB⟩:=(oX.out.later ab).2.2.2 Ua;have aY:=Jdh (Jq p) j x hx;have d1':wr.cell? ⟨b,off+j * 4+1,none⟩=some (.int .i64 x.ck):=cB _ _ aY.2.1;have d2':wr.cell? ⟨b,off+j * 4+2,none⟩=some (.string x.cn):=cB _ _ aY.2.2.1;have HF:=Lib.hid hF;have hSE:∀w',Below wr.heap.size wr w'->w'.cell? ⟨b,off+j * 4+1,none⟩=some (.int .i64 x.ck)/\w'.cell? ⟨b,off+j * 4+2,none⟩=some (.string x.cn):=fun w' hb=>⟨Ja hb d1',Ja hb d2'⟩;have nE:=Lib.hid hSE;have ar:=hSE wr.drew (Jh (Below.refl _ _));have jW:=Lib.hid (mO.out.later ab);have l2':=mP.out.1;have m2':=mP.out.2.1;unfold maxLen at m2';have oZ:=xU.1;have xV:IntKind.i32.wrap ((j:Int)+1)=((j+1:Nat):Int):=(Jbn Vh).trans Ua;clear hx aj aP xU hF cB aY hSE d1' d2';generalize T0 ++ Ze sl nd (((Jq p).drop nd).take m)=td at *
       go_wp2_with fail
       refine Kd (fun w'=>w'.cell? ⟨b,off+j * 4+1,none⟩=some (.int .i64 x.ck)/\w'.cell? ⟨b,off+j * 4+2,none⟩=some (.string x.cn)) 15 1 Ug Gd ?_;simp only [List.size_toArray,List.length_cons,List.length_nil,Nat.zero_add,Nat.reduceAdd];refine Ji 0 ar ?_;refine Ji 1 ar ?_;refine Ji 2 ar ?_;refine Ji 3 ar ?_;refine Ji 4 ar ?_;refine Ji 5 ar ?_;refine Ji 6 ar ?_;refine Ji 8 ar ?_;refine Kb 7 ?_;refine Jj fun K hK=>?_;go_simp;refine(Jcm _ _ _).mono ?_;rintro r w4 ⟨⟨g4',rfl,qQ⟩,pg⟩;dsimp only;have qN:Below wr.heap.size wr w4:=Jd (Jh (Below.refl _ _)) pg;refine hK _ _ ⟨nE.out w4 qN,?_⟩;clear hK K
       try simp only [Act.put,sa1,sa2,sa3]
       refine Kb 9 ?_;refine Jj fun K hK=>?_;go_simp;refine(Jcm _ _ _).mono ?_;rintro r w5 ⟨⟨g5',rfl,bP⟩,kN⟩;dsimp only;have ph:Below wr.heap.size wr w5:=Jd qN kN;refine hK _ _ ⟨nE.out w5 ph,?_⟩;clear hK K
       try simp only [Act.put,sa1,sa2,sa3]
       refine Kb 10 ?_;refine Jj fun K hK=>?_;go_simp;refine hK _ _ ⟨nE.out _ (Jc ph _),?_⟩;clear hK K
       try simp only [Act.put,sa1,sa2,sa3]
       refine Kb 11 ?_;refine Jj fun K hK=>?_;go_simp;refine(Jl7 [(1,1)] [(5,(j:Int))] (some ⟨g4',0,none⟩) 1 (some ⟨g5',0,none⟩) 1 w5 _ (qQ.later kN) bP Ul).mono ?_;rintro r w6 ⟨⟨A6',c6',rfl,oA⟩,pi⟩;dsimp only;have hl6:([((1:Int),(1:Int))] ++ [((5:Int),(j:Int))]).length<=400:=Ul;have nF:Below wr.heap.size wr w6:=Jd ph pi;generalize [((1:Int),(1:Int))] ++ [((5:Int),(j:Int))]=l6 at *;refine hK _ _ ⟨nE.out w6 nF,?_⟩;clear hK K
       try simp only [Act.put,sa1,sa2,sa3]
       refine Kb 12 ?_;refine Jj fun K hK=>?_;go_simp;refine(Jh7 X Bs Bf sl fl x.ck x.cn l6 A6' c6' w6 (jW.out.later nF) lq oZ oA Ua).mono ?_;rintro r w7 ⟨⟨A7',c7',rfl,oB⟩,pj⟩;dsimp only;have mR:Below wr.heap.size wr w7:=Jd nF pj;refine hK _ _ ⟨nE.out w7 mR,?_⟩;clear hK K
       try simp only [Act.put,sa1,sa2,sa3]
       refine Kb 13 ?_;refine Jj fun K hK=>?_;go_simp;refine hK _ _ ⟨nE.out _ (Jc mR _),?_⟩;clear hK K
       try simp only [Act.put,sa1,sa2,sa3]
       refine Kb 14 ?_;refine Jj fun K hK=>?_;go_simp;refine(Jl7 td (Qk sl (x.ck,x.cn) l6) A' cap' A7' c7' w7 _ (mP.out.later mR) oB Ua).mono ?_;rintro r w8 ⟨⟨A8',c8',rfl,sA⟩,pk⟩;dsimp only;have rr:Below wr.heap.size wr w8:=Jd mR pk;refine hK _ _ ⟨nE.out w8 rr,?_⟩;clear hK K
       try simp only [Act.put,sa1,sa2,sa3]
       refine Kh Ug ?_;refine Qx 15 ?_;refine Jj fun K hK=>?_;go_simp;refine hK _ _ ?_;clear hK K
       try simp only [Act.put,sa1,sa2,sa3]
       refine Ki Ug ?_;have rs:=Lib.hid sA;have jh:Below W3.heap.size W3 w8:=Jd en rr;clear ar qQ bP oA oB sA
       go_wp2_with fail
       go_roundw
       case rel=>exact⟨m+1,j+1,A8',c8',Lib.hid St,Ua,by rw [HF.out];simp,by first|rfl|(simp;done)|(congr 1;omega),Lib.hid (by rw [HF.out];exact rs.out),jh⟩
       case measure=>simp [intOf];omega
      ·obtain rfl:m=((Jq p).drop nd).length:=Ua;rw [List.take_length] at mP;rw [List.take_length];have hjn:¬(j:Int)<((Jq p).length:Int):=St;have rt:=Jkc sl ((Jq p).drop nd) nd;have htl:(T0 ++ Ze sl nd ((Jq p).drop nd)).length<=20000:=Li;have hbel2:=ab;generalize hT1:T0 ++ Ze sl nd ((Jq p).drop nd)=T1 at *;have HIT1:=mP;obtain⟨W4,rfl⟩:∃W4,W4=wr:=⟨wr,rfl⟩;have yq0:=Ja ab p0;have yq1:=Ja ab p1;have yq2:=Ja ab p2;have yq3:=Ja ab p3;have yq4:=Ja ab p4;clear mP rt
       go_wp2_with (first|(go_at_call 24;go_loud (refine(eL _ Jb).mono ?_;rintro r wo ⟨⟨vo,rfl,ae⟩,cW⟩;obtain⟨Ao,co,rfl,xW,tW⟩:=Jv ae;have fW:=Yq.of_own ae;have jY:=Jg cW;have jB:=cW.size;(try simp at jB))))
       refine Jo fun W5 xX=>?_;have da:Below W.heap.size W W5:=Te;have mS:Yq W5 (J1 p).1 Ao co:=fW.later Te;have HINT:=Lib.hid mS;have kC:=mS.1;have hil2:=mS.2.1;unfold maxLen at hil2;have holn:(J1 p).1.length<=24:=by have:=lN.out.2.1;have:=cC.out.small.2.2.2;omega
       have xY:Hid (J3 W5 H1 A cap):=Lib.hid (xT.out.later (Jd en Te));have xZ:Hid (J3 W5 T1 A' cap'):=Lib.hid (HIT1.out.later Te);clear xX fW ae mS jY cW
       go_loopw [10,138] (fun c i wr=>∃(k:Nat) (A:Option Addr) (cap:Nat),k<=(J1 p).1.length/\c = .slice A (Xd sl fl (Je p) p.eqs ((J1 p).1.take k)).length cap/\i = .int .i64 k/\Hid (J3 wr (Xd sl fl (Je p) p.eqs ((J1 p).1.take k)) A cap)/\Below W5.heap.size W5 wr) (fun _ i _=>(J1 p).1.length-(intOf i).toNat)
       case atStart=>exact⟨0,none,0,Nat.zero_le _,by simp [Xd],rfl,Lib.hid (by rw [List.take_zero,Xd];exact Jar _),Below.refl _ _⟩
       case round=>
        obtain⟨k,Ao',capo,hk,rfl,rfl,lr,jF⟩:=hrel;have ab:Below W.heap.size W wr:=Jd da jF;have bu:=ab.size;have aC:Below w.heap.size w wr:=Jd dZ ab
        by_cases am:k<(J1 p).1.length
        ·have hx:(J1 p).1[k]?=some (J1 p).1[k]:=List.getElem?_eq_getElem am;have aP:(J1 p).1.take (k+1)=(J1 p).1.take k ++ [(J1 p).1[k]]:=U6;generalize (J1 p).1[k]=jj at hx aP;obtain⟨m',q,rfl,hq⟩:=lN.out.2.2 k jj hx;have aj:=List.mem_of_getElem? hq;have tX:m'<p.eqs.length:=(List.getElem?_eq_some_iff.1 hq).1;have cM:=cC.out.eqs q aj;have aN:=cC.out.clock aj;have aZ:=fun c=>cC.out.codes q aj sl fl c;obtain⟨bo,offo,rfl,wI⟩:=(HINT.out.later jF).2.2 Ua;have di:=wI k _ hx;obtain⟨b,off,B1,k1,B2,k2,hA4,bG,⟨d0',d1',d2',d3',d4',d5',d6',d7',d8',d9',sf,se⟩⟩:=(qO.out.later aC).get hq;have dw:okS q.name:=Mn
         have hO:Xd sl fl (Je p) p.eqs ((J1 p).1.take (k+1))=Xd sl fl (Je p) p.eqs ((J1 p).1.take k) ++ Qk sl (J9 (Je p) q.name) (q.e.gen sl fl (J9 (Je p) q.name) ++ [(3,sl q.name)]):=by
          rw [aP,Jif,Jpr sl fl (Je p) p.eqs m' q hq]
         have jV:(Xd sl fl (Je p) p.eqs ((J1 p).1.take k)).length<=10000:=by
          have:=Jhf sl fl (Je p) p.eqs (fun y hy c=>cC.out.codes y hy sl fl c) ((J1 p).1.take k);rw [List.length_take] at this;exact Ua
         have HO:=Lib.hid hO;have ik:=Jiv q.name (Je p);rw [show(Je p).foldl (fun c v=>if q.name.data=v.name.data then(v.ck,v.cn) else c) (0,⟨#[]⟩)=J9 (Je p) q.name from rfl] at ik;have oY:=kL.out.clks;generalize Xd sl fl (Je p) p.eqs ((J1 p).1.take k)=td at *;generalize J9 (Je p) q.name=CK at *;obtain⟨ck,cs⟩:=CK;dsimp only at aN;have lq:okC (ck,cs):=⟨by unfold I64;dsimp only;omega,by have:=aN.1;unfold maxLen;dsimp only;omega⟩;have eS:=aZ (ck,cs);have hul:=Jb0 sl (ck,cs) (q.e.gen sl fl (ck,cs) ++ [(3,sl q.name)]);have lP:=Jow X Bs Bf sl fl q.e cM.formed Sq B2 k2 ck cs;unfold exV at lP;have oz:=Ja ab X0;have xP:=Ja ab X1;have yy4:wr.cell? ⟨w.heap.size,4,none⟩=some (.slice A4 p.eqs.length c4):=Ja ab p4;have wE:=Lib.hid (oY.bel ab);have jW:=Lib.hid (mO.out.later ab);have tS:=Lib.hid (xN.out.bel ab);have HEX:=Lib.hid lP;have nE:=Lib.hid se;have oZ:=aN.2;subst hA4;clear hx aP hq aj hO oY lP sf se aZ wI
         go_wp2_with fail
         refine Jo fun V1 dq=>?_;have ac:Below wr.heap.size wr V1:=Dv;have mQ:V1.heap.size=wr.heap.size+1:=by rw [dq];simp
         have z0:V1.cell? ⟨wr.heap.size,0,none⟩=some (.string q.name):=Vd;have z6:V1.cell? ⟨wr.heap.size,6,none⟩=some (.int .i64 q.e.kind):=Vd;have z7:V1.cell? ⟨wr.heap.size,7,none⟩=some (.int .i32 q.e.n):=Vd;have z8:V1.cell? ⟨wr.heap.size,8,none⟩=some (.string q.e.name):=Vd;have z9:V1.cell? ⟨wr.heap.size,9,none⟩=some (.slice B2 q.e.sub.length k2):=Vd;have pb:=Ja ac oz;have pc:=Ja ac xP
         have wF:∀w',Below V1.heap.size V1 w'->w'.cell? ⟨X,1,none⟩=some (.map (some Bt))/\w'.cell? ⟨wr.heap.size,0,none⟩=some (.string q.name)/\(Instr.lookup 69 (.map (some Bt)) (.string q.name) false).run Tryz.prog w' = .ok (.agg #[.int .i64 ck,.string cs]) w':=fun w' hb=>
          ⟨Ja hb pc,Ja hb z0,Ji1 (Jc2 Tryz.underlying9) Jgn Tryz.underlying69 (Jdv w') ⟨Vs,Ux⟩ (x:= .string q.name) rfl (wE.out.bel (Jd ac hb)) dw ik⟩
         have wH:=Lib.hid wF;have tT:=Lib.hid (lr.out.later ac);have bK:Below W.heap.size W V1:=Jd ab ac;have hbVo:Below W5.heap.size W5 V1:=Jd jF ac;have xQ:Below w.heap.size w V1:=Jd aC ac;have tU:=Lib.hid (jW.out.later ac);have l2':=lr.out.1;have m2':=lr.out.2.1;unfold maxLen at m2';have Z0:=Lib.hid z0;have Z6:=Lib.hid z6;have Z7:=Lib.hid z7;have Z8:=Lib.hid z8;have Z9:=Lib.hid z9;have ZX:=Lib.hid pb;have dr:=wF V1.drew (Jh (Below.refl _ _));clear dq wF z0 z6 z7 z8 z9 pb pc oz xP ik d0' d1' d2' d3' d4' d5' d6' d7' d8' d9' di yy4;refine Kd (fun w'=>w'.cell? ⟨X,1,none⟩=some (.map (some Bt))/\w'.cell? ⟨wr.heap.size,0,none⟩=some (.string q.name)/\(Instr.lookup 69 (.map (some Bt)) (.string q.name) false).run Tryz.prog w' = .ok (.agg #[.int .i64 ck,.string cs]) w') 8 1 Ug Gd ?_;simp only [List.size_toArray,List.length_cons,List.length_nil,Nat.zero_add,Nat.reduceAdd];refine Ji 0 dr ?_;refine Ji 1 dr ?_;refine Ji 2 dr ?_;refine Ji 3 dr ?_;refine Ji 4 dr ?_;refine Ji 5 dr ?_;refine Ji 6 dr ?_;refine Kb 7 ?_;refine Jj fun K hK=>?_;go_simp;refine hK _ _ ⟨wH.out _ (Jh (Jc (Below.refl _ _) _)),?_⟩;clear hK K
         try simp only [Act.put,sa1,sa2,sa3]
         refine Kh Ug ?_;refine Qx 8 ?_;refine Jj fun K hK=>?_;go_simp;refine hK _ _ ?_;clear hK K
         try simp only [Act.put,sa1,sa2,sa3]
         refine Ki Ug ?_;refine Zc fun V2 bz=>?_;have c0':V2.cell? ⟨wr.heap.size+1,0,none⟩=some (.int .i64 ck):=by rw [<-mQ,bz,Xi];go_simp
         have c1':V2.cell? ⟨wr.heap.size+1,1,none⟩=some (.string cs):=by rw [<-mQ,bz,Xi];go_simp
         have gu:Below V1.heap.size V1 V2:=by rw [bz];exact Jh (Jc (Below.refl _ _) _)
         have tV:∀w',Below V2.heap.size V2 w'->w'.cell? ⟨wr.heap.size,6,none⟩=some (.int .i64 q.e.kind)/\w'.cell? ⟨wr.heap.size,7,none⟩=some (.int .i32 q.e.n)/\w'.cell? ⟨wr.heap.size,8,none⟩=some (.string q.e.name)/\w'.cell? ⟨wr.heap.size,9,none⟩=some (.slice B2 q.e.sub.length k2)/\w'.cell? ⟨wr.heap.size+1,0,none⟩=some (.int .i64 ck)/\w'.cell? ⟨wr.heap.size+1,1,none⟩=some (.string cs)/\w'.cell? ⟨X,0,none⟩=some (.map (some Bs))/\w'.cell? ⟨wr.heap.size,0,none⟩=some (.string q.name)/\(Instr.lookup 68 (.map (some Bs)) (.string q.name) false).run Tryz.prog w' = .ok (.int .i32 (sl q.name)) w':=fun w' hb=>
          ⟨Ja hb (Ja gu Z6.out),Ja hb (Ja gu Z7.out),Ja hb (Ja gu Z8.out),Ja hb (Ja gu Z9.out),Ja hb c0',Ja hb c1',Ja hb (Ja gu ZX.out),Ja hb (Ja gu Z0.out),Jcb (Jc2 Tryz.underlying9) (x:= .string q.name) Tryz.underlying68 Tryz.underlying21 (Jbp _) rfl (tS.out.bel (Jd ac (Jd gu hb))) dw (mL.out _ dw)⟩
         have jX:=Lib.hid tV;have HTV:=Lib.hid (tT.out.later gu);have xR:=Lib.hid (tU.out.later gu);have cX:Below wr.heap.size wr V2:=Jd ac gu;have dk:=tV V2.drew (Jh (Below.refl _ _));clear dr bz tV c0' c1' wH
         go_wp2_with fail
         refine Kd (fun w'=>w'.cell? ⟨wr.heap.size,6,none⟩=some (.int .i64 q.e.kind)/\w'.cell? ⟨wr.heap.size,7,none⟩=some (.int .i32 q.e.n)/\w'.cell? ⟨wr.heap.size,8,none⟩=some (.string q.e.name)/\w'.cell? ⟨wr.heap.size,9,none⟩=some (.slice B2 q.e.sub.length k2)/\w'.cell? ⟨wr.heap.size+1,0,none⟩=some (.int .i64 ck)/\w'.cell? ⟨wr.heap.size+1,1,none⟩=some (.string cs)/\w'.cell? ⟨X,0,none⟩=some (.map (some Bs))/\w'.cell? ⟨wr.heap.size,0,none⟩=some (.string q.name)/\(Instr.lookup 68 (.map (some Bs)) (.string q.name) false).run Tryz.prog w' = .ok (.int .i32 (sl q.name)) w') 21 1 Ug Gd ?_;simp only [List.size_toArray,List.length_cons,List.length_nil,Nat.zero_add,Nat.reduceAdd];refine Ji 0 dk ?_;refine Ji 1 dk ?_;refine Ji 2 dk ?_;refine Ji 3 dk ?_;refine Ji 4 dk ?_;refine Ji 5 dk ?_;refine Ji 6 dk ?_;refine Ji 8 dk ?_;refine Ji 9 dk ?_;refine Ji 10 dk ?_;refine Ji 11 dk ?_;refine Ji 12 dk ?_;refine Ji 13 dk ?_;refine Ji 14 dk ?_;refine Kb 7 ?_;refine Jj fun K hK=>?_;go_simp;refine(HEX.out V2.drew (xR.out.later (Jh (Below.refl _ _))) (nE.out.later (Jh (Jd ac gu))) lq).mono ?_;rintro r w4 ⟨⟨A4',c4',rfl,qQ⟩,pg⟩;dsimp only;have qN:Below V2.heap.size V2 w4:=Jd (Jh (Below.refl _ _)) pg;refine hK _ _ ⟨jX.out w4 qN,?_⟩;clear hK K
         try simp only [Act.put,sa1,sa2,sa3]
         refine Kb 15 ?_;refine Jj fun K hK=>?_;go_simp;refine(Jcm _ _ _).mono ?_;rintro r w5 ⟨⟨g5',rfl,bP⟩,kN⟩;dsimp only;have ph:Below V2.heap.size V2 w5:=Jd qN kN;refine hK _ _ ⟨jX.out w5 ph,?_⟩;clear hK K
         try simp only [Act.put,sa1,sa2,sa3]
         refine Kb 16 ?_;refine Jj fun K hK=>?_;go_simp;refine hK _ _ ⟨jX.out _ (Jc ph _),?_⟩;clear hK K
         try simp only [Act.put,sa1,sa2,sa3]
         refine Kb 17 ?_;refine Jj fun K hK=>?_;go_simp;refine(Jl7 (q.e.gen sl fl (ck,cs)) [(3,sl q.name)] A4' c4' (some ⟨g5',0,none⟩) 1 w5 _ (qQ.later kN) bP Uj).mono ?_;rintro r w6 ⟨⟨A6',c6',rfl,oA⟩,pi⟩;dsimp only;have hl6:(q.e.gen sl fl (ck,cs) ++ [((3:Int),sl q.name)]).length<=400:=F7;have nF:Below V2.heap.size V2 w6:=Jd ph pi;generalize q.e.gen sl fl (ck,cs) ++ [((3:Int),sl q.name)]=l6 at *;refine hK _ _ ⟨jX.out w6 nF,?_⟩;clear hK K
         try simp only [Act.put,sa1,sa2,sa3]
         refine Kb 18 ?_;refine Jj fun K hK=>?_;go_simp;refine(Jh7 X Bs Bf sl fl ck cs l6 A6' c6' w6 (xR.out.later nF) lq oZ oA Ua).mono ?_;rintro r w7 ⟨⟨A7',c7',rfl,oB⟩,pj⟩;dsimp only;have mR:Below V2.heap.size V2 w7:=Jd nF pj;refine hK _ _ ⟨jX.out w7 mR,?_⟩;clear hK K
         try simp only [Act.put,sa1,sa2,sa3]
         refine Kb 19 ?_;refine Jj fun K hK=>?_;go_simp;refine hK _ _ ⟨jX.out _ (Jc mR _),?_⟩;clear hK K
         try simp only [Act.put,sa1,sa2,sa3]
         refine Kb 20 ?_;refine Jj fun K hK=>?_;go_simp;refine(Jl7 td (Qk sl (ck,cs) l6) Ao' capo A7' c7' w7 _ (HTV.out.later mR) oB Ua).mono ?_;rintro r w8 ⟨⟨A8',c8',rfl,sA⟩,pk⟩;dsimp only;have rr:Below V2.heap.size V2 w8:=Jd mR pk;refine hK _ _ ⟨jX.out w8 rr,?_⟩;clear hK K
         try simp only [Act.put,sa1,sa2,sa3]
         refine Kh Ug ?_;refine Qx 21 ?_;refine Jj fun K hK=>?_;go_simp;refine hK _ _ ?_;clear hK K
         try simp only [Act.put,sa1,sa2,sa3]
         refine Ki Ug ?_;have rs:=Lib.hid sA;have jh:Below W5.heap.size W5 w8:=Jd jF (Jd cX rr);clear dk qQ bP oA oB sA jX
         go_wp2_with fail
         go_roundw
         case rel=>exact⟨k+1,A8',c8',Ua,by rw [HO.out];simp,Up,Lib.hid (by rw [HO.out];exact rs.out),jh⟩
         case measure=>simp [intOf];omega
        ·obtain rfl:k=(J1 p).1.length:=Ua;rw [List.take_length] at lr;rw [List.take_length]
         have hordl:(Xd sl fl (Je p) p.eqs (J1 p).1).length<=10000:=by
          have:=Jhf sl fl (Je p) p.eqs (fun y hy c=>cC.out.codes y hy sl fl c) (J1 p).1;exact Ua
         have ya:=ab;generalize hOC:Xd sl fl (Je p) p.eqs (J1 p).1=OC at *;have HIO:=lr;have yb:=Lib.hid (xY.out.later jF);have yc:=Lib.hid (xZ.out.later jF);have yy2:wr.cell? ⟨w.heap.size,2,none⟩=some (.slice A2 p.outs.length c2):=Ja ab p2;obtain⟨W6,rfl⟩:∃W6,W6=wr:=⟨wr,rfl⟩;clear lr xY xZ
         go_wp2_with fail
         go_loopw [9,179] (fun t i wr=>∃(k:Nat) (A:Option Addr) (cap:Nat),k<=p.outs.length/\t = .slice A (T1 ++ Xl sl 0 (p.outs.take k)).length cap/\i = .int .i64 k/\Hid (J3 wr (T1 ++ Xl sl 0 (p.outs.take k)) A cap)/\Below W6.heap.size W6 wr) (fun _ i _=>p.outs.length-(intOf i).toNat)
         case atStart=>exact⟨0,A',cap',Nat.zero_le _,by simp [Xl],rfl,Lib.hid (by rw [show T1 ++ Xl sl 0 (p.outs.take 0)=T1 by simp [Xl]];exact yc.out),Below.refl _ _⟩
         case round=>
          obtain⟨k,A'',cap'',hk,rfl,rfl,hi,mT⟩:=hrel;have ab:Below W.heap.size W wr:=Jd ya mT;have bu:=ab.size;have aC:Below w.heap.size w wr:=Jd dZ ab
          by_cases am:k<p.outs.length
          ·have hx:p.outs[k]?=some p.outs[k]:=List.getElem?_eq_getElem am;have aj:p.outs[k]∈p.outs:=List.getElem_mem am;have aP:p.outs.take (k+1)=p.outs.take k ++ [p.outs[k]]:=U6;generalize p.outs[k]=x at hx aj aP;have dT:=(nA.out x (by simp [Je,aj])).1;have jN:=cC.out.small.2.1
           have hI:T1 ++ Xl sl 0 (p.outs.take (k+1))=(T1 ++ Xl sl 0 (p.outs.take k)) ++ [(2,sl x.name)] ++ [(7,(k:Int))]:=by
            rw [aP,Jhy,List.length_take,show 0+min k p.outs.length=k from by omega];simp [List.append_assoc]
           have hI2:(T1 ++ Xl sl 0 (p.outs.take k)).length<=30000:=by rw [List.length_append,Jhh,List.length_take];omega
           obtain⟨b,off,tM,aH,⟨d0',d1',d2',d3'⟩⟩:=(kJ.out.later aC).get hx;have HI:=Lib.hid hI;have xI:IntKind.i32.wrap (k:Int)=(k:Int):=Jbn Vh;have oz:=Ja ab X0;subst tM;clear hx aj aP hI;generalize T1 ++ Xl sl 0 (p.outs.take k)=hd at *;have l2:=hi.out.1;have m2:=hi.out.2.1;unfold maxLen at m2
           go_wp2_with fail
           refine Jo fun V1 dq=>?_;have ac:Below wr.heap.size wr V1:=Dv;have z0:V1.cell? ⟨wr.heap.size,0,none⟩=some (.string x.name):=Vd;have kM:=Ja ac oz;have bK:Below W.heap.size W V1:=Jd ab ac;have hbV6:Below W6.heap.size W6 V1:=Jd mT ac
           have hS:∀w',Below V1.heap.size V1 w'->w'.cell? ⟨X,0,none⟩=some (.map (some Bs))/\w'.cell? ⟨wr.heap.size,0,none⟩=some (.string x.name)/\(Instr.lookup 68 (.map (some Bs)) (.string x.name) false).run Tryz.prog w' = .ok (.int .i32 (sl x.name)) w':=fun w' hb=>
            ⟨Ja hb kM,Ja hb z0,Jcb (Jc2 Tryz.underlying9) (x:= .string x.name) Tryz.underlying68 Tryz.underlying21 (Jbp _) rfl (xN.out.bel (Jd bK hb)) dT (mL.out _ dT)⟩
           have HS:=Lib.hid hS;have sw:=Lib.hid (hi.out.later ac);have ar:=hS V1.drew (Jh (Below.refl _ _));clear dq hS z0 kM oz d0' d1' d2' d3';refine Kd (fun w'=>w'.cell? ⟨X,0,none⟩=some (.map (some Bs))/\w'.cell? ⟨wr.heap.size,0,none⟩=some (.string x.name)/\(Instr.lookup 68 (.map (some Bs)) (.string x.name) false).run Tryz.prog w' = .ok (.int .i32 (sl x.name)) w') 14 1 Ug Gd ?_;simp only [List.size_toArray,List.length_cons,List.length_nil,Nat.zero_add,Nat.reduceAdd];refine Ji 0 ar ?_;refine Ji 1 ar ?_;refine Ji 2 ar ?_;refine Ji 3 ar ?_;refine Ji 4 ar ?_;refine Ji 5 ar ?_;refine Ji 6 ar ?_;refine Ji 7 ar ?_;refine Ji 9 ar ?_;refine Ji 10 ar ?_;refine Kb 8 ?_;refine Jj fun K hK=>?_;go_simp;refine(Jcm _ _ _).mono ?_;rintro r w1 ⟨⟨g1',rfl,dN⟩,eM⟩;dsimp only;have cT:Below V1.heap.size V1 w1:=Jd (Jh (Below.refl _ _)) eM;refine hK _ _ ⟨HS.out w1 cT,?_⟩;clear hK K
           try simp only [Act.put,sa1,sa2,sa3]
           refine Kb 11 ?_;refine Jj fun K hK=>?_;go_simp;refine(Jcm _ _ _).mono ?_;rintro r w2 ⟨⟨g2',rfl,dR⟩,iJ⟩;dsimp only;have cF:Below V1.heap.size V1 w2:=Jd cT iJ;refine hK _ _ ⟨HS.out w2 cF,?_⟩;clear hK K
           try simp only [Act.put,sa1,sa2,sa3]
           refine Kb 12 ?_;refine Jj fun K hK=>?_;go_simp;refine hK _ _ ⟨HS.out _ (Jc cF _),?_⟩;clear hK K
           try simp only [Act.put,sa1,sa2,sa3]
           refine Kb 13 ?_;refine Jj fun K hK=>?_;go_simp;refine(Jxf hd [(2,sl x.name)] [(7,(k:Int))] A'' cap'' (some ⟨g1',0,none⟩) 1 (some ⟨g2',0,none⟩) 1 w2 _ (sw.out.later cF) (dN.later iJ) dR Uj).mono ?_;rintro r w3 ⟨⟨A3',c3',rfl,iI⟩,nD⟩;dsimp only;have cZ:Below V1.heap.size V1 w3:=Jd cF nD;refine hK _ _ ⟨HS.out w3 cZ,?_⟩;clear hK K
           try simp only [Act.put,sa1,sa2,sa3]
           refine Kh Ug ?_;refine Qx 14 ?_;refine Jj fun K hK=>?_;go_simp;refine hK _ _ ?_;clear hK K
           try simp only [Act.put,sa1,sa2,sa3]
           refine Ki Ug ?_
           go_wp2_with fail
           go_roundw
           case rel=>exact⟨k+1,A3',c3',Ua,by rw [HI.out];simp,Up,Lib.hid (by rw [HI.out];exact iI),Jd hbV6 cZ⟩
           case measure=>simp [intOf];omega
          ·obtain rfl:k=p.outs.length:=Ua;rw [List.take_length] at hi;rw [List.take_length];have htt:(T1 ++ Xl sl 0 p.outs).length<=30000:=by rw [List.length_append,Jhh];have:=cC.out.small.2.1;omega
           generalize hTT:T1 ++ Xl sl 0 p.outs=TT at *;have yd:=Lib.hid (yb.out.later mT);have ye:=Lib.hid (HIO.out.later mT);have qR:(H1 ++ OC ++ TT).length=(Xs p).length:=by rw [HCD.out]
           have ay:=Jwq H1 OC TT _ _ _ _ _ _ wr 29 yd.out ye.out hi.out Ua
           have yf:∀wz,Below wr.heap.size wr wz->Jzs w W wz p A1 A2 c1 c2 wa X Bs:=fun wz gt=>by
            have hb:Below W.heap.size W wz:=Jd ab gt
            exact⟨Jd aC gt,Dx,Dx,
             ⟨Ja hb g0,Ja hb g1,Ja hb g2,Ja hb g3,Ja hb g4⟩,⟨Ja hb d0,Ja hb d1,Ja hb d2⟩,⟨Ja hb q0,Ja hb q1,Ja hb q2⟩,
             fun o ho=>(Jf hb _ _ Ua).trans (by rcases ho with rfl|rfl|rfl|rfl|rfl <;> assumption),fun o ho=>(Jf hb _ _ Ua).trans (by rcases ho with rfl|rfl|rfl <;> assumption),
             Ja hb p1,Ja hb p2,Ja hb X0,fun w' he=>((kL.out.later hb).slots.keep1 he).lenRun Tryz.underlying68 _,fun he=>Qd.cellsNo (kL.out.later hb).slots (v:= .int .i64 0) (o:=0) (by rw [he];exact Ja hb g0)⟩
           have HWZ:=Lib.hid yf;have jZ:=Lib.hid ay;have wJ:=Lib.hid qR;generalize H1 ++ OC ++ TT=LL at *;clear yf ay qR dp fM cC oV nA lN eL oU kJ qO kL oX xN mL mO yd ye hi HIO yb yc;clear g0 g1 g2 g3 g4 f0 f1 f2 f3 f4 d0 d1 d2 e0 e1 e2 q0 q1 q2 p0 p1 p2 p3 p4 X0 X1
           by_cases lR:600<LL.length
           ·have t600:(600:Int)<(LL.length:Int):=Ua
            go_wp2_with (first|(go_at_call 20;go_loud (refine jZ.out.mono ?_;rintro r wz ⟨⟨vz,rfl,fh⟩,gt⟩;obtain⟨Az,cz,rfl,yg,yh⟩:=Jv fh;obtain⟨jh,z1,z2,⟨g0,g1,g2,g3,g4⟩,⟨d0,d1,d2⟩,⟨q0,q1,q2⟩,fg,fd,p1,p2,x0,yi,nB⟩:=HWZ.out wz gt;have f0:=fg 0 Ul;have f1:=fg 1 Ul;have f2:=fg 2 Ul;have f3:=fg 3 Ul;have f4:=fg 4 Ul;have e0:=fd 0 Ul;have e1:=fd 1 Ul;have e2:=fd 2 Ul;clear fg fd gt;clear fh yi p1 p2 x0 q0 q1 q2)))
            refine bodyPost_ret (v:= .tuple #[.slice none 0 0,.agg #[.int .i64 0,.int .i64 0,.int .i64 0,.int .i64 0,.int .i64 0],.agg #[.int .i64 4,.int .i64 0,.int .i64 3]]) G1 rfl ?_;unfold Jgs;rw [HCD.out,if_pos lR];exact⟨rfl,Qq _ _ _ (Jdj _ _ _ _ _ jh Ua) Ua⟩
           ·have t600:¬(600:Int)<(LL.length:Int):=Ua
            go_wp2_with (first|(go_at_call 20;go_loud (refine jZ.out.mono ?_;rintro r wz ⟨⟨vz,rfl,fh⟩,gt⟩;obtain⟨Az,cz,rfl,yg,yh⟩:=Jv fh;obtain⟨jh,z1,z2,⟨g0,g1,g2,g3,g4⟩,⟨d0,d1,d2⟩,⟨q0,q1,q2⟩,fg,fd,p1,p2,x0,yi,nB⟩:=HWZ.out wz gt;have f0:=fg 0 Ul;have f1:=fg 1 Ul;have f2:=fg 2 Ul;have f3:=fg 3 Ul;have f4:=fg 4 Ul;have e0:=fd 0 Ul;have e1:=fd 1 Ul;have e2:=fd 2 Ul;clear fg fd gt;have hX:X≠w.heap.size+1:=(fun he=>by rw [he,g0] at x0;cases x0);have HLN:=Lib.hid yi;have ar:(fun w':World=>w'.cell? ⟨X,0,none⟩=some (.map (some Bs))/\w'.cell? ⟨w.heap.size,1,none⟩=some (.slice A1 p.ins.length c1)/\w'.cell? ⟨w.heap.size,2,none⟩=some (.slice A2 p.outs.length c2)/\w'.cell? ⟨wa.heap.size,0,none⟩=some (.int .i64 0)/\w'.cell? ⟨wa.heap.size,1,none⟩=some (.int .i64 0)/\w'.cell? ⟨wa.heap.size,2,none⟩=some (.int .i64 0)/\(Builtin.len_ #[68] 3 #[.map (some Bs)]).run Tryz.prog w' = .ok (.int .i64 ((Je p).length:Nat)) w') wz.drew:=⟨x0,p1,p2,q0,q1,q2,yi wz.drew rfl⟩;dsimp only at ar;clear yi)))
            refine Kd (fun w'=>w'.cell? ⟨X,0,none⟩=some (.map (some Bs))/\w'.cell? ⟨w.heap.size,1,none⟩=some (.slice A1 p.ins.length c1)/\w'.cell? ⟨w.heap.size,2,none⟩=some (.slice A2 p.outs.length c2)/\w'.cell? ⟨wa.heap.size,0,none⟩=some (.int .i64 0)/\w'.cell? ⟨wa.heap.size,1,none⟩=some (.int .i64 0)/\w'.cell? ⟨wa.heap.size,2,none⟩=some (.int .i64 0)/\(Builtin.len_ #[68] 3 #[.map (some Bs)]).run Tryz.prog w' = .ok (.int .i64 ((Je p).length:Nat)) w') 20 1 Ug Gd ?_;simp only [List.size_toArray,List.length_cons,List.length_nil,Nat.zero_add,Nat.reduceAdd];refine Ji 0 ar ?_;refine Ji 1 ar ?_;refine Ji 2 ar ?_;refine Ji 3 ar ?_;refine Ji 4 ar ?_;refine Ji 5 ar ?_;refine Ji 6 ar ?_;refine Ji 7 ar ?_;refine Ji 8 ar ?_;refine Ji 9 ar ?_;refine Ji 10 ar ?_;refine Ji 11 ar ?_;refine Ji 12 ar ?_;refine Ji 13 ar ?_;refine Ji 14 ar ?_;refine Ji 15 ar ?_;refine Ji 16 ar ?_;refine Ji 17 ar ?_;refine Ji 18 ar ?_;refine Kb 19 ?_;refine Jj fun K hK=>?_;go_simp;have HS5:=Jz4 (v0:= .int .i64 ((Je p).length:Nat)) (v1:= .int .i64 ((Jq p).length:Nat)) (v2:= .int .i64 ((Jq p).length:Nat)) (v3:= .int .i64 (p.ins.length:Nat)) (v4:= .int .i64 (p.outs.length:Nat)) hX x0 p1 p2 q0 q1 q2 Ua Ua HLN.out nB;refine hK _ _ ⟨HS5,Kh Ug ?_⟩;clear hK K HS5
            try simp only [Act.put,sa1,sa2,sa3]
            refine Jgr fun W1 bt=>?_;have ac:Below w.heap.size w W1:=by rw [bt];exact Jh (Jdj _ _ _ _ _ jh Ua)
            have cD:J6 (fun b=>b=w.heap.size+1\/b=w.heap.size+1+1) wz W1:=by rw [bt];exact((((((J6.refl wz).setCell (.inl rfl) _ _).setCell (.inl rfl) _ _).setCell (.inl rfl) _ _).setCell (.inl rfl) _ _).setCell (.inl rfl) _ _).trans' (J6.bel (Jh (Below.refl _ _)))
            obtain⟨r0,r1,r2,r3,r4⟩:=Jsy (W:=wz) (.int .i64 ((Je p).length:Nat)) (.int .i64 ((Jq p).length:Nat)) (.int .i64 ((Jq p).length:Nat)) (.int .i64 (p.ins.length:Nat)) (.int .i64 (p.outs.length:Nat)) g0 g1 g2 g3 g4;have R:∀b o,W1.cell? ⟨b,o,none⟩=(((((wz.setCell ⟨w.heap.size+1,0,none⟩ (.int .i64 ((Je p).length:Nat))).setCell ⟨w.heap.size+1,1,none⟩ (.int .i64 ((Jq p).length:Nat))).setCell ⟨w.heap.size+1,2,none⟩ (.int .i64 ((Jq p).length:Nat))).setCell ⟨w.heap.size+1,3,none⟩ (.int .i64 (p.ins.length:Nat))).setCell ⟨w.heap.size+1,4,none⟩ (.int .i64 (p.outs.length:Nat))).cell? ⟨b,o,none⟩:=fun b o=>by rw [bt,Xi]
            have RF:∀p,W1.frozen? p=wz.frozen? p:=fun p=>by
             rw [bt,Jdn];exact Ji7 (W:=wz) (b:=w.heap.size+1) _ _ _ _ _ p
            have s0:=(R _ _).trans r0;have s1:=(R _ _).trans r1;have s2:=(R _ _).trans r2;have s3:=(R _ _).trans r3;have s4:=(R _ _).trans r4;have t0:=((R _ _).trans (Q8 _ _ _ _ _ Ua)).trans d0;have t1:=((R _ _).trans (Q8 _ _ _ _ _ Ua)).trans d1;have t2:=((R _ _).trans (Q8 _ _ _ _ _ Ua)).trans d2;have z0:=(RF _).trans e0;have z1':=(RF _).trans e1;have z2':=(RF _).trans e2;clear bt R RF r0 r1 r2 r3 r4 ar g0 g1 g2 g3 g4 f0 f1 f2 f3 f4 d0 d1 d2 e0 e1 e2 q0 q1 q2 x0 p1 p2 HLN HWZ jZ;refine Qx 20 ?_;refine Jj fun K hK=>?_;go_simp;refine hK _ _ ?_;clear hK K
            try simp only [Act.put,sa1,sa2,sa3]
            refine Ki Ug ?_;refine Zc fun W2 gi=>?_;obtain⟨r0,r1,r2⟩:=Jp5 (W:=W1) (.int .i64 0) (.int .i64 0) (.int .i64 0) t0 t1 t2;have R:∀b o,W2.cell? ⟨b,o,none⟩=(((W1.setCell ⟨w.heap.size+1+1,0,none⟩ (.int .i64 0)).setCell ⟨w.heap.size+1+1,1,none⟩ (.int .i64 0)).setCell ⟨w.heap.size+1+1,2,none⟩ (.int .i64 0)).cell? ⟨b,o,none⟩:=fun b o=>by rw [gi]
            have aq:Below w.heap.size w W2:=Udu;have dz:J6 (fun b=>b=w.heap.size+1\/b=w.heap.size+1+1) wz W2:=Fc;have ao:=K8 (dz.own (fun b hb h=>by have:=(fh.lt b hb).1;omega) fh) (show w.heap.size<=wr.heap.size by omega);have x0:=(R _ _).trans r0;have x1:=(R _ _).trans r1;have x2:=(R _ _).trans r2;have y0:=((R _ _).trans (Qy _ _ _ Ua)).trans s0;have y1:=((R _ _).trans (Qy _ _ _ Ua)).trans s1;have y2:=((R _ _).trans (Qy _ _ _ Ua)).trans s2;have y3:=((R _ _).trans (Qy _ _ _ Ua)).trans s3;have y4:=((R _ _).trans (Qy _ _ _ Ua)).trans s4;clear gi R r0 r1 r2 s0 s1 s2 s3 s4 t0 t1 t2 z0 z1' z2' cD dz
            go_wp2_with fail
            refine bodyPost_ret (v:= .tuple #[.slice Az LL.length cz,.agg #[.int .i64 ((Je p).length:Nat),.int .i64 ((Jq p).length:Nat),.int .i64 ((Jq p).length:Nat),.int .i64 (p.ins.length:Nat),.int .i64 (p.outs.length:Nat)],.agg #[.int .i64 0,.int .i64 0,.int .i64 0]]) G1 rfl ?_;unfold Jgs;rw [HCD.out,if_neg lR];exact⟨⟨_,rfl,ao⟩,aq⟩
end Go.Proofs.YtknfcamdfdfoeaaGreatDoor
namespace Go.Proofs.YtknfcamdfdfoeaaGreatDoor
open Go.RowKit Go.Sort
section
variable {P:Program} {ops:Array Oper} {Q:Exit->Act->World->Prop} {md:Region.Mode} {S:World->Prop}
theorem Jfe {n g i j:Nat} {oi oj:Oper} {f:Nat} {listed:Array Bool} {a:Act} {w:World} (hr:Region.ready md ops listed = [i,j]) (hi:ops[i]?=some oi) (hj:ops[j]?=some oj) (hg:oi.guard=none) (hgj:oj.guard=none)
  (h:oi.wp P a w (fun a' w'=>S w'/\Jab P md ops Q S n g f (listed.setIfInBounds i true) a' w') Q) (h2:oj.wp P a w (fun a' w'=>S w'/\Jab P md ops Q S n g f (listed.setIfInBounds j true) a' w') Q):Jab P md ops Q S n g (f+1) listed a w:=by
 refine⟨fun h0=>D8,fun k hk=>?_⟩;rw [hr] at hk;simp only [List.mem_cons,List.not_mem_nil,or_false] at hk
 rcases hk with rfl|rfl
 ·exact Ucr
 ·exact Uby
theorem Jrr {n g i j l:Nat} {oi oj ol:Oper} {f:Nat} {listed:Array Bool} {a:Act} {w:World} (hr:Region.ready md ops listed = [i,j,l]) (hi:ops[i]?=some oi) (hj:ops[j]?=some oj) (hl:ops[l]?=some ol) (hg:oi.guard=none) (hgj:oj.guard=none) (eS:ol.guard=none)
  (h:oi.wp P a w (fun a' w'=>S w'/\Jab P md ops Q S n g f (listed.setIfInBounds i true) a' w') Q) (h2:oj.wp P a w (fun a' w'=>S w'/\Jab P md ops Q S n g f (listed.setIfInBounds j true) a' w') Q) (h3:ol.wp P a w (fun a' w'=>S w'/\Jab P md ops Q S n g f (listed.setIfInBounds l true) a' w') Q):Jab P md ops Q S n g (f+1) listed a w:=by
 refine⟨fun h0=>D8,fun k hk=>?_⟩;rw [hr] at hk;simp only [List.mem_cons,List.not_mem_nil,or_false] at hk
 rcases hk with rfl|rfl|rfl
 ·exact Ucr
 ·exact Uby
 ·unfold wpOp;have hw:Region.wanted ol (yielded ops a.tmps)=true:=by simp [Region.wanted,eS]
  simp only [hl,hw,if_true];exact .inl h3
end
section
variable (sl:ByteArray->Int) (fl:Int×ByteArray->Int)
theorem Jk9 (c:Ce):∀(l:List Ce) (i:Nat),Xx sl i (l ++ [c])=Xx sl i l ++ (if c.name.toList.isEmpty=true then [] else [(4,((i+l.length:Nat):Int)),(3,sl c.name)])
 | [],i=>by simp [Xx]
 | x :: l,i=>by
  rw [List.cons_append,Xx,Jk9 c l (i+1),Xx,List.append_assoc,List.length_cons,show i+1+l.length=i+(l.length+1) by omega]
theorem Jnp:∀(l:List Ce) (i:Nat),(Xx sl i l).length<=2 * l.length
 | [],i=>by simp [Xx]
 | x :: l,i=>by
  have:=Jnp l (i+1);rw [Xx,List.length_append,List.length_cons]
  split <;> simp <;> omega
theorem Jkr (eqs:List Qe) (c:Ce):∀(l:List Ce) (i:Nat),Xw sl fl eqs i (l ++ [c])=Xw sl fl eqs i l ++ Qk sl (c.ck,c.cn) (Zm sl fl c [(1,1)] eqs ++ [(5,((i+l.length:Nat):Int))])
 | [],i=>by simp [Xw]
 | x :: l,i=>by
  rw [List.cons_append,Xw,Jkr eqs c l (i+1),Xw,List.append_assoc,List.length_cons,show i+1+l.length=i+(l.length+1) by omega]
theorem Jio (c:Ce):∀(eqs:List Qe) (x:List (Int×Int)),(∀q∈eqs,∀c,(q.e.gen sl fl c).length<=360)->x.length<=360->(Zm sl fl c x eqs).length<=360
 | [],x,_,h=>h
 | q :: r,x,hq,h=>by
  unfold Zm;rw [List.foldl_cons];refine Jio c r _ (fun y hy=>hq y F0) ?_
  split
  ·exact hq q Ul _
  ·exact h
theorem Jso (c:Ce) (eqs:List Qe) (q:Qe) (x:List (Int×Int)):Zm sl fl c x (eqs ++ [q])=if c.name.toList.isEmpty=false/\(q.name.toList == c.name.toList)=true then q.e.gen sl fl (c.ck,c.cn) else Zm sl fl c x eqs:=by
 unfold Zm;rw [List.foldl_append];exact Gd
theorem Jm5 (eqs:List Qe) (h:∀q∈eqs,∀c,(q.e.gen sl fl c).length<=360):∀(l:List Ce) (i:Nat),(Xw sl fl eqs i l).length<=370 * l.length
 | [],i=>by simp [Xw]
 | c :: l,i=>by
  have h1:=Jm5 eqs h l (i+1);have h2:=Jb0 sl (c.ck,c.cn) (Zm sl fl c [(1,1)] eqs ++ [(5,(i:Int))]);have h3:=Jio sl fl c eqs [(1,1)] h Ul;rw [Xw,List.length_append,List.length_cons];simp only [List.length_append,List.length_cons,List.length_nil] at h2;exact Ua
end
theorem Jss {L:List Va} (hn:(L.map (·.name)).Nodup) {k:Nat} {v:Va} (h:L[k]?=some v):Jp L v.name=(k:Int):=by
 have h1:=Jid hn h
 rcases Y5 L v.name with ⟨h2,h3⟩|⟨j,u,h2,h3,h4⟩
 ·have:=(Jek h).1;omega
 ·have h5:=(Jek h).2.1;rw [h2]
  rcases Nat.lt_or_ge j k with hj|hj
  ·have h6:u∈L.take k:=List.mem_of_getElem? (i:=j) (by rw [List.getElem?_take,if_pos hj];exact h3);have h7:=h1 u h6
   have h8:u.name=v.name:=by
    have:=Jem h4;rw [<-Zf,beq_iff_eq];exact this.2
   exact absurd h8 h7
  ·exact Ua
theorem Jw2 (p:Pr) (a:PrA) (w:World) (hp:Kr w p a) (aw:Q4 p) (n1:p.ins.length<=1000000) (n2:p.outs.length<=1000000) (n3:p.locals.length<=1000000) (n4:p.eqs.length<=1000000) (hf:(Kf p).2≠(0,0,0)) :
  Calls Tryz.prog 9 #[prV p a] w fun r w'=>r = .returned (.tuple #[.slice none 0 0,Jme,fV (Kf p).2])/\Below w.heap.size w w':=by
 have ah:=fun W h=>Jkw p a W (hp.later h) aw n1 n2 n3 n4;unfold Je7 at ah
 have aS:(Kf p).2.2.2≠0:=by
  unfold Kf at hf ⊢
  split
  ·rename_i h1;rw [if_pos h1] at hf
   split
   ·show(3:Int)≠0;decide
   ·rename_i h2;rw [if_neg h2] at hf;exact absurd rfl hf
  ·rename_i h1;exact Jkq h1
 obtain⟨A1,c1,A2,c2,A3,c3,A4,c4⟩:=a;generalize (Kf p).1=cl at *;generalize (Kf p).2=cf at *;obtain⟨k1,k2,k3⟩:=cf;unfold Jme;unfold prV fV at *;dsimp only at *;have t1:(k3 != 0)=true:=Se;clear hp aw hf aS
 go_enter Tryz.func9,Tryz.ntmps9
 go_wp2_with (first|(go_at_call 25;refine(ah _ Jb).mono ?_;rintro r wa ⟨⟨v,rfl,ae⟩,aA⟩;obtain⟨Ac,cc,rfl,oS,nx⟩:=Jv ae;have aW:=Jg aA;have bS:=Jf aA;have cN:w.heap.size+3<=wa.heap.size:=Ut;have dG:w.heap.size<wa.heap.size:=Ua;have aX:w.heap.size+1<wa.heap.size:=Ua;have eJ:w.heap.size+1+1<wa.heap.size:=Ua;clear ae))
 refine Jo fun W0 ag=>?_;have ax:Below w.heap.size w W0:=Uo;have aQ:Below wa.heap.size wa W0:=Uo;have g0:W0.cell? ⟨w.heap.size+1,0,none⟩=some (.int .i64 0):=Ja aQ Udi;have f0:W0.frozen? ⟨w.heap.size+1,0,none⟩=false:=(Jf aQ _ _ aX).trans ((bS _ _ Ul).trans Uq);have g1:W0.cell? ⟨w.heap.size+1,1,none⟩=some (.int .i64 0):=Ja aQ Udi;have f1:W0.frozen? ⟨w.heap.size+1,1,none⟩=false:=(Jf aQ _ _ aX).trans ((bS _ _ Ul).trans Uq);have g2:W0.cell? ⟨w.heap.size+1,2,none⟩=some (.int .i64 0):=Ja aQ Udi;have f2:W0.frozen? ⟨w.heap.size+1,2,none⟩=false:=(Jf aQ _ _ aX).trans ((bS _ _ Ul).trans Uq);have g3:W0.cell? ⟨w.heap.size+1,3,none⟩=some (.int .i64 0):=Ja aQ Udi;have f3:W0.frozen? ⟨w.heap.size+1,3,none⟩=false:=(Jf aQ _ _ aX).trans ((bS _ _ Ul).trans Uq);have g4:W0.cell? ⟨w.heap.size+1,4,none⟩=some (.int .i64 0):=Ja aQ Udi;have f4:W0.frozen? ⟨w.heap.size+1,4,none⟩=false:=(Jf aQ _ _ aX).trans ((bS _ _ Ul).trans Uq);have d0:W0.cell? ⟨w.heap.size+1+1,0,none⟩=some (.int .i64 0):=Ja aQ Udi;have e0:W0.frozen? ⟨w.heap.size+1+1,0,none⟩=false:=(Jf aQ _ _ eJ).trans ((bS _ _ Ul).trans Uq);have q0:W0.cell? ⟨wa.heap.size,0,none⟩=some (.int .i64 k1):=Uc;have d1:W0.cell? ⟨w.heap.size+1+1,1,none⟩=some (.int .i64 0):=Ja aQ Udi;have e1:W0.frozen? ⟨w.heap.size+1+1,1,none⟩=false:=(Jf aQ _ _ eJ).trans ((bS _ _ Ul).trans Uq);have q1:W0.cell? ⟨wa.heap.size,1,none⟩=some (.int .i64 k2):=Uc;have d2:W0.cell? ⟨w.heap.size+1+1,2,none⟩=some (.int .i64 0):=Ja aQ Udi;have e2:W0.frozen? ⟨w.heap.size+1+1,2,none⟩=false:=(Jf aQ _ _ eJ).trans ((bS _ _ Ul).trans Uq);have q2:W0.cell? ⟨wa.heap.size,2,none⟩=some (.int .i64 k3):=Uc;clear ag aW bS aA aQ ah
 have bW:∀(w':World) (b o:Nat) (u:Value),b≠wa.heap.size->w'.cell? ⟨wa.heap.size,0,none⟩=some (.int .i64 k1)/\w'.cell? ⟨wa.heap.size,1,none⟩=some (.int .i64 k2)/\w'.cell? ⟨wa.heap.size,2,none⟩=some (.int .i64 k3)->(w'.setCell ⟨b,o,none⟩ u).cell? ⟨wa.heap.size,0,none⟩=some (.int .i64 k1)/\(w'.setCell ⟨b,o,none⟩ u).cell? ⟨wa.heap.size,1,none⟩=some (.int .i64 k2)/\(w'.setCell ⟨b,o,none⟩ u).cell? ⟨wa.heap.size,2,none⟩=some (.int .i64 k3):=fun w' b o u hb ⟨h1,h2,h3⟩=>
  ⟨(World.cell?_setCell_other _ _ _ _ Lf).trans h1,(World.cell?_setCell_other _ _ _ _ Lf).trans h2,(World.cell?_setCell_other _ _ _ _ Lf).trans h3⟩
 have gQ:=Lib.hid bW;have oT:∀w':World,w'.cell? ⟨wa.heap.size,0,none⟩=some (.int .i64 k1)/\w'.cell? ⟨wa.heap.size,1,none⟩=some (.int .i64 k2)/\w'.cell? ⟨wa.heap.size,2,none⟩=some (.int .i64 k3)->w'.drew.cell? ⟨wa.heap.size,0,none⟩=some (.int .i64 k1)/\w'.drew.cell? ⟨wa.heap.size,1,none⟩=some (.int .i64 k2)/\w'.drew.cell? ⟨wa.heap.size,2,none⟩=some (.int .i64 k3):=fun _ h=>h;have HD:=Lib.hid oT;clear bW oT;have ar:W0.drew.cell? ⟨wa.heap.size,0,none⟩=some (.int .i64 k1)/\W0.drew.cell? ⟨wa.heap.size,1,none⟩=some (.int .i64 k2)/\W0.drew.cell? ⟨wa.heap.size,2,none⟩=some (.int .i64 k3):=⟨q0,q1,q2⟩;refine Kd (fun w'=>w'.cell? ⟨wa.heap.size,0,none⟩=some (.int .i64 k1)/\w'.cell? ⟨wa.heap.size,1,none⟩=some (.int .i64 k2)/\w'.cell? ⟨wa.heap.size,2,none⟩=some (.int .i64 k3)) 4 1 Ug Gd ?_;simp only [List.size_toArray,List.length_cons,List.length_nil,Nat.zero_add,Nat.reduceAdd];refine Ji 0 ar ?_;refine Ji 1 ar ?_;refine Ji 2 ar ?_;refine Kb 3 ?_;refine Jj fun K hK=>?_;go_simp;have oy:=HD.out _ (gQ.out _ (w.heap.size+1) 4 (.int .i64 0) Ua (gQ.out _ (w.heap.size+1) 3 (.int .i64 0) Ua (gQ.out _ (w.heap.size+1) 2 (.int .i64 0) Ua (gQ.out _ (w.heap.size+1) 1 (.int .i64 0) Ua (gQ.out W0 (w.heap.size+1) 0 (.int .i64 0) Ua ⟨q0,q1,q2⟩)))));refine hK _ _ ⟨oy,Kh Ug ?_⟩;clear hK K
 try simp only [Act.put,sa1,sa2,sa3]
 refine Jgr fun W1 bt=>?_;have ac:Below w.heap.size w W1:=by rw [bt];exact Jh (Jdj _ _ _ _ _ ax Ua)
 obtain⟨r0,r1,r2,r3,r4⟩:=Jsy (W:=W0) (.int .i64 0) (.int .i64 0) (.int .i64 0) (.int .i64 0) (.int .i64 0) g0 g1 g2 g3 g4;have R:∀b o,W1.cell? ⟨b,o,none⟩=(((((W0.setCell ⟨w.heap.size+1,0,none⟩ (.int .i64 0)).setCell ⟨w.heap.size+1,1,none⟩ (.int .i64 0)).setCell ⟨w.heap.size+1,2,none⟩ (.int .i64 0)).setCell ⟨w.heap.size+1,3,none⟩ (.int .i64 0)).setCell ⟨w.heap.size+1,4,none⟩ (.int .i64 0)).cell? ⟨b,o,none⟩:=fun b o=>by rw [bt,Xi]
 have RF:∀p,W1.frozen? p=W0.frozen? p:=fun p=>by
  rw [bt,Jdn];exact Ji7 (W:=W0) (b:=w.heap.size+1) _ _ _ _ _ p
 have s0:=(R _ _).trans r0;have s1:=(R _ _).trans r1;have s2:=(R _ _).trans r2;have s3:=(R _ _).trans r3;have s4:=(R _ _).trans r4;have t0:=((R _ _).trans (Q8 _ _ _ _ _ Ua)).trans d0;have t1:=((R _ _).trans (Q8 _ _ _ _ _ Ua)).trans d1;have t2:=((R _ _).trans (Q8 _ _ _ _ _ Ua)).trans d2;have z0:=(RF _).trans e0;have z1:=(RF _).trans e1;have z2:=(RF _).trans e2;clear bt R RF r0 r1 r2 r3 r4 oy ar q0 q1 q2 g0 g1 g2 g3 g4 f0 f1 f2 f3 f4 d0 d1 d2 e0 e1 e2 gQ HD;refine Qx 4 ?_;refine Jj fun K hK=>?_;go_simp;refine hK _ _ ?_;clear hK K
 try simp only [Act.put,sa1,sa2,sa3]
 refine Ki Ug ?_;refine Zc fun W2 gi=>?_;obtain⟨r0,r1,r2⟩:=Jp5 (W:=W1) (.int .i64 k1) (.int .i64 k2) (.int .i64 k3) t0 t1 t2;have R:∀b o,W2.cell? ⟨b,o,none⟩=(((W1.setCell ⟨w.heap.size+1+1,0,none⟩ (.int .i64 k1)).setCell ⟨w.heap.size+1+1,1,none⟩ (.int .i64 k2)).setCell ⟨w.heap.size+1+1,2,none⟩ (.int .i64 k3)).cell? ⟨b,o,none⟩:=fun b o=>by rw [gi]
 have aq:Below w.heap.size w W2:=Udu;have x0:=(R _ _).trans r0;have x1:=(R _ _).trans r1;have x2:=(R _ _).trans r2;have y0:=((R _ _).trans (Qy _ _ _ Ua)).trans s0;have y1:=((R _ _).trans (Qy _ _ _ Ua)).trans s1;have y2:=((R _ _).trans (Qy _ _ _ Ua)).trans s2;have y3:=((R _ _).trans (Qy _ _ _ Ua)).trans s3;have y4:=((R _ _).trans (Qy _ _ _ Ua)).trans s4;clear gi R r0 r1 r2 s0 s1 s2 s3 s4 t0 t1 t2 z0 z1 z2
 go_wp2_with fail
 exact bodyPost_ret (v:= .tuple #[.slice none 0 0,.agg #[.int .i64 0,.int .i64 0,.int .i64 0,.int .i64 0,.int .i64 0],.agg #[.int .i64 k1,.int .i64 k2,.int .i64 k3]]) G2 rfl ⟨rfl,aq⟩
structure Jn8 (W:World) (w:World) (X:Nat) (p:Pr) (L:List Va) (C:List Ce) (Av:Option Addr) (cv:Nat) (Ac:Option Addr) (cc:Nat) (A1 A2 A4:Option Addr) (c1 c2 c4:Nat):Prop where
 m0:W.cell? ⟨X,0,none⟩=some (.slice Av L.length cv)
 m1:W.cell? ⟨X,1,none⟩=some (.slice Ac C.length cc)
 p1:W.cell? ⟨w.heap.size,1,none⟩=some (.slice A1 p.ins.length c1)
 p2:W.cell? ⟨w.heap.size,2,none⟩=some (.slice A2 p.outs.length c2)
 p4:W.cell? ⟨w.heap.size,4,none⟩=some (.slice A4 p.eqs.length c4)
 va:Ju W L Av cv
 ce:Jbh W C Ac cc
 ins:Ju W p.ins A1 c1
 outs:Ju W p.outs A2 c2
 eqs:Jap W p.eqs A4 c4
 lt:w.heap.size<W.heap.size
theorem Jn8.later {W W' w:World} {X:Nat} {p:Pr} {L:List Va} {C:List Ce} {Av:Option Addr} {cv:Nat} {Ac:Option Addr} {cc:Nat} {A1 A2 A4:Option Addr} {c1 c2 c4:Nat} (h:Jn8 W w X p L C Av cv Ac cc A1 A2 A4 c1 c2 c4) (hb:Below W.heap.size W W'):Jn8 W' w X p L C Av cv Ac cc A1 A2 A4 c1 c2 c4:=
 ⟨Ja hb h.m0,Ja hb h.m1,Ja hb h.p1,Ja hb h.p2,Ja hb h.p4,h.va.later hb,h.ce.later hb,h.ins.later hb,h.outs.later hb,h.eqs.later hb,Nat.lt_of_lt_of_le h.lt hb.size⟩
theorem Jup (p:Pr) (a:PrA) (w:World) (hp:Kr w p a) (aw:Q4 p) (n1:p.ins.length<=1000000) (n2:p.outs.length<=1000000) (n3:p.locals.length<=1000000) (n4:p.eqs.length<=1000000) (hS:Ks p=(0,0,0)) (dP:¬16<(Jq p).length) :
  Calls Tryz.prog 9 #[prV p a] w (Jgs p w):=by
 have bO:=Jff hS;have ah:=fun W h=>Jkw p a W (hp.later h) aw n1 n2 n3 n4;have eL:=fun W h=>Jg8 p a W (hp.later h) aw n1 n2 n3 n4;have aJ:=fun W h=>Z3 p a W (hp.later h) n1 n2 n3;have dY:=Yg bO.order;rw [bO.order] at eL;unfold Je7 at ah;rw [show Kf p=(Jq p,(0,0,0)) by unfold Kf;rw [if_pos hS,if_neg dP]] at ah;have yz:=Jw6 bO;have ai:=bO.codes;have oU:=Lib.hid hp.ins;have kJ:=Lib.hid hp.outs;have qO:=Lib.hid hp.eqs;have yA:=Lib.hid aw.eqs;have bI:=hp.ins.len;have aD:=hp.outs.len;have cG:=hp.eqs.len;unfold maxLen at bI aD cG;have cC:=Lib.hid bO;have lN:=Lib.hid dY;have pE:=Lib.hid eL;have yB:=Lib.hid yz;have eO:=Lib.hid ai;have jN:=bO.small;obtain⟨bC,bd,hs3,hs4⟩:=jN;obtain⟨A1,c1,A2,c2,A3,c3,A4,c4⟩:=a;unfold prV fV at *;dsimp only at *;obtain⟨tO,tP⟩:=bI;obtain⟨tQ,tR⟩:=aD;obtain⟨fT,fU⟩:=cG;clear hS hp aw bO dY eL yz ai
 go_enter Tryz.func9,Tryz.ntmps9
 go_wp2_with (first
  | (go_at_call 25;refine(ah _ Jb).mono ?_;rintro r wa ⟨⟨v,rfl,ae⟩,aA⟩;obtain⟨Ac,cc,rfl,lO⟩:=Jbh.of_own ae;clear ae;have aW:=Jg aA;have bS:=Jf aA;have cN:w.heap.size+3<=wa.heap.size:=Ut;have dG:w.heap.size<wa.heap.size:=Ua;have aX:w.heap.size+1<wa.heap.size:=Ua;have eJ:w.heap.size+1+1<wa.heap.size:=Ua;have nC:=Lib.hid lO;clear lO)
  | (go_at_call 26;go_loud (refine(aJ _ Jb).mono ?_;rintro r wl ⟨⟨Av,cv,rfl,ay⟩,ij⟩;have bO:=Jg ij;have gM:=Jf ij;have su:wa.heap.size+1<=wl.heap.size:=(by have:=ij.size;simpa using this);have cR:=Ju.of_own ay;have yC:=Lib.hid cR;clear ay cR)))
 refine Jo fun W hW=>?_;have dZ:Below w.heap.size w W:=Dw;have bA:Below wa.heap.size wa W:=Dw;have kK:Below wl.heap.size wl W:=Dw;have g0:W.cell? ⟨w.heap.size+1,0,none⟩=some (.int .i64 0):=Ja bA Udi;have f0:W.frozen? ⟨w.heap.size+1,0,none⟩=false:=(Jf bA _ _ aX).trans ((bS _ _ Ul).trans Uq);have g1:W.cell? ⟨w.heap.size+1,1,none⟩=some (.int .i64 0):=Ja bA Udi;have f1:W.frozen? ⟨w.heap.size+1,1,none⟩=false:=(Jf bA _ _ aX).trans ((bS _ _ Ul).trans Uq);have g2:W.cell? ⟨w.heap.size+1,2,none⟩=some (.int .i64 0):=Ja bA Udi;have f2:W.frozen? ⟨w.heap.size+1,2,none⟩=false:=(Jf bA _ _ aX).trans ((bS _ _ Ul).trans Uq);have g3:W.cell? ⟨w.heap.size+1,3,none⟩=some (.int .i64 0):=Ja bA Udi;have f3:W.frozen? ⟨w.heap.size+1,3,none⟩=false:=(Jf bA _ _ aX).trans ((bS _ _ Ul).trans Uq);have g4:W.cell? ⟨w.heap.size+1,4,none⟩=some (.int .i64 0):=Ja bA Udi;have f4:W.frozen? ⟨w.heap.size+1,4,none⟩=false:=(Jf bA _ _ aX).trans ((bS _ _ Ul).trans Uq);have d0:W.cell? ⟨w.heap.size+1+1,0,none⟩=some (.int .i64 0):=Ja bA Udi;have e0:W.frozen? ⟨w.heap.size+1+1,0,none⟩=false:=(Jf bA _ _ eJ).trans ((bS _ _ Ul).trans Uq);have d1:W.cell? ⟨w.heap.size+1+1,1,none⟩=some (.int .i64 0):=Ja bA Udi;have e1:W.frozen? ⟨w.heap.size+1+1,1,none⟩=false:=(Jf bA _ _ eJ).trans ((bS _ _ Ul).trans Uq);have d2:W.cell? ⟨w.heap.size+1+1,2,none⟩=some (.int .i64 0):=Ja bA Udi;have e2:W.frozen? ⟨w.heap.size+1+1,2,none⟩=false:=(Jf bA _ _ eJ).trans ((bS _ _ Ul).trans Uq);have p0:W.cell? ⟨w.heap.size,0,none⟩=some (.string p.name):=Ja bA Udn;have p1:W.cell? ⟨w.heap.size,1,none⟩=some (.slice A1 p.ins.length c1):=Ja bA Udn;have p2:W.cell? ⟨w.heap.size,2,none⟩=some (.slice A2 p.outs.length c2):=Ja bA Udn;have p3:W.cell? ⟨w.heap.size,3,none⟩=some (.slice A3 p.locals.length c3):=Ja bA Udn;have p4:W.cell? ⟨w.heap.size,4,none⟩=some (.slice A4 p.eqs.length c4):=Ja bA Udn;have m0:W.cell? ⟨wl.heap.size,0,none⟩=some (.slice Av (Je p).length cv):=by rw [hW];go_simp
 have m1:W.cell? ⟨wl.heap.size,1,none⟩=some (.slice Ac (Jq p).length cc):=by rw [hW];go_simp
 have gj:=Lib.hid (Jn8.mk (W:=W) (w:=w) (X:=wl.heap.size) (p:=p) m0 m1 p1 p2 p4 (yC.out.later kK) (nC.out.later bA) (oU.out.later dZ) (kJ.out.later dZ) (qO.out.later dZ) (by have:=bA.size;omega));have hzW:w.heap.size+3<=W.heap.size:=by have:=bA.size;omega
 have sH:w.heap.size<W.heap.size:=Ua;have nq:=cC.out.nodup;have ny:=cC.out.vars;have nz:∀c∈Jq p,c.ck=0\/c.ck=1\/c.ck=2:=fun c hc=>(cC.out.cells hc).1;have ry:=fun(q:Qe) (hq:q∈p.eqs)=>cC.out.find hq;have cM:=cC.out.eqs;have hL6:(Je p).length<=1000000:=Ua;have nF:(Jq p).length<=1000000:=Ua;have pF:=fun(q:Qe) (hq:q∈p.eqs)=>Js1 (Je p) (Jq p) Av cv Ac cc hL6 nF q.e (cM q hq).formed (yA.out q hq).2.2.2 (by have:=(cM q hq).size;omega)
 have yD:∀(k:Nat) (x:Va),p.ins[k]?=some x->Jp (Je p) x.name=(k:Int):=fun k x hx=>Jss nq (by
  unfold Je;have:=(List.getElem?_eq_some_iff.1 hx).1;rw [List.getElem?_append_left Li,List.getElem?_append_left Ua];exact hx)
 have yE:=Lib.hid yD;have HND:=Lib.hid nq;have nA:=Lib.hid ny;have oV:=Lib.hid nz;have yF:=Lib.hid ry;have ui:=Lib.hid pF;have sJ:Hid (Xs p=Yh (Jp (Je p)) 0 p.ins ++ Xx (Jp (Je p)) 0 (Jq p) ++ Xd (Jp (Je p)) (Kg (Jq p)) (Je p) p.eqs (J1 p).1 ++ Xw (Jp (Je p)) (Kg (Jq p)) p.eqs 0 (Jq p) ++ Xl (Jp (Je p)) 0 p.outs):=Lib.hid (by rw [<-yB.out];rfl);have HP0:=Lib.hid p0;have HP3:=Lib.hid p3;have hXge:w.heap.size+3<=wl.heap.size:=Ua;generalize wl.heap.size=X at *;clear hW aW bS bO gM cN dG aX eJ su aA ij bA kK nq ny nz ry cM pF yD nC yC oU kJ qO yA cC yB ah aJ m0 m1;clear p0 p3;generalize qR:Je p=L at *;generalize hCC:Jq p=C at *;have uf:=fun s=>Jd3 hL6 s
 go_loopw [8,9] (fun V i wr=>∃(k:Nat),k<=p.ins.length/\i = .int .i64 k/\Hid (wr.ownsRow W.heap.size 59 2 V (Yh (Jp L) 0 (p.ins.take k)).length (cdC (Yh (Jp L) 0 (p.ins.take k))))/\Below W.heap.size W wr) (fun _ i _=>p.ins.length-(intOf i).toNat)
 case atStart=>exact⟨0,Nat.zero_le _,rfl,Lib.hid (World.ownsRow_nil _ _ _ _),Below.refl _ _⟩
 case round=>
  obtain⟨k,hk,rfl,ae,ab⟩:=hrel;have bu:=ab.size;have lu:w.heap.size<wr.heap.size:=Ua;have hpp:=Ja ab p1;have kC:=Je4 (Jp L) (p.ins.take k) 0;rw [List.length_take] at kC
  by_cases am:k<p.ins.length
  ·have hx:p.ins[k]?=some p.ins[k]:=List.getElem?_eq_getElem am;have aP:p.ins.take (k+1)=p.ins.take k ++ [p.ins[k]]:=U6;generalize p.ins[k]=x at hx aP
   have fE:Yh (Jp L) 0 (p.ins.take (k+1))=Yh (Jp L) 0 (p.ins.take k) ++ [(6,(k:Int)),(3,(k:Int))]:=by
    rw [aP,Jis,yE.out k x hx,List.length_take,show 0+min k p.ins.length=k by omega]
   have oD:=Lib.hid fE;have kQ:I32 (k:Int):=Vh;clear hx aP fE;generalize Yh (Jp L) 0 (p.ins.take k)=lk at *
   go_wp2_with (first
    | (go_at_call_of 27 (Value.int IntKind.i64 6);go_loud (refine(Xo _ _ kQ _).mono ?_;rintro r wx ⟨rfl,fk⟩))
    | (go_at_call_of 27 (Value.int IntKind.i64 3);go_loud (refine(Xo _ _ kQ _).mono ?_;rintro r wy ⟨rfl,gl⟩;have uj:Below W.heap.size W wy:=Jn ab (Jd fk gl) ab.size))
    | (at_builtin;go_loud (refine K6 rfl (.tmp 42) (.tmp 47) 29 rfl W.heap.size 59 _ 2 16 Tryz.underlying29 Qz rfl Ua u8 lk.length (cdC lk) _ 2 2 (cdC [(6,(k:Int)),(3,(k:Int))]) rfl (Js (Jy (Jy ae.out fk) gl)) rfl (Qr rfl rfl) (Q2 _) Ua Ua (by have:=uj.size;simp;omega) ?_;intro v2 w2 ao aq;have sK:=Lib.hid ao;clear ao)))
   go_roundw
   case rel=>exact⟨k+1,Ua,Up,Lib.hid (by rw [oD.out,Jbr,List.length_append];exact sK.out),(Jc uj _).trans aq⟩
   case measure=>simp [intOf];omega
  ·obtain rfl:k=p.ins.length:=Ua;have dr:=ae.out;rw [List.take_length] at dr kC;generalize Yh (Jp L) 0 p.ins=I1 at *;have qT:=Lib.hid dr;clear ae dr
   go_wp2_with fail
   clear hpp
   go_loopw [8,10] (fun V i wr=>∃(k:Nat),k<=C.length/\i = .int .i64 k/\Hid (wr.ownsRow W.heap.size 59 2 V (I1 ++ Xx (Jp L) 0 (C.take k)).length (cdC (I1 ++ Xx (Jp L) 0 (C.take k))))/\Below W.heap.size W wr) (fun _ i _=>C.length-(intOf i).toNat)
   case atStart=>exact⟨0,Nat.zero_le _,rfl,Lib.hid (by rw [List.take_zero,Xx,List.append_nil];exact qT.out),ab⟩
   case round=>
    clear qT ab lu bu;obtain⟨k,dz,rfl,ae,ab⟩:=hrel;have bu:=ab.size;have lu:w.heap.size<wr.heap.size:=Ua;have yG:=Jnp (Jp L) (C.take k) 0;rw [List.length_take] at yG;have hllk:(I1 ++ Xx (Jp L) 0 (C.take k)).length<=100:=Li
    by_cases dO:k<C.length
    ·have hx:C[k]?=some C[k]:=List.getElem?_eq_getElem dO;have aP:C.take (k+1)=C.take k ++ [C[k]]:=Gg;generalize C[k]=x at hx aP;obtain⟨b,off,rfl,cB⟩:=gj.out.ce.2.2.2 Ua;have d0:=cB _ _ (Jdh C k x hx).1
     have fE:I1 ++ Xx (Jp L) 0 (C.take (k+1))=(I1 ++ Xx (Jp L) 0 (C.take k)) ++ (if x.name.toList.isEmpty=true then [] else [(4,(k:Int)),(3,Jp L x.name)]):=by
      rw [aP,Jk9,List.length_take,show 0+min k C.length=k by omega,List.append_assoc]
     have hS:∀w',Below W.heap.size W w'->w'.cell? ⟨X,0,none⟩=some (.slice Av L.length cv)/\w'.cell? ⟨X,1,none⟩=some (.slice (some ⟨b,off,none⟩) C.length cc)/\w'.cell? ⟨b,off+k * 4,none⟩=some (.string x.name):=fun w' hb=>
      ⟨Ja hb gj.out.m0,Ja hb gj.out.m1,Ja hb d0⟩
     have HSW:=Lib.hid hS;have HS:=Lib.hid (fun w' (hb:Below wr.heap.size wr w')=>hS w' (Jn ab hb ab.size));have ar:=hS wr.drew (Jh ab);have d0':=Ja ab d0;have dF:=fun W' (hb:Below wr.heap.size wr W')=>Jdt L Av cv (.slice (some ⟨b,off,none⟩) C.length cc) x.name W' (gj.out.va.later (Jn ab hb ab.size));have kQ:I32 (k:Int):=Vh;have uh:=fun W'=>Xo 4 (k:Int) kQ W';have rz:=fun W'=>Xo 3 (Jp L x.name) (uf x.name) W';have sI:=Lib.hid dF;have oD:=Lib.hid fE;have aH:=block_lt_of_cell d0';clear hx aP cB d0 fE hS dF;generalize I1 ++ Xx (Jp L) 0 (C.take k)=lk at *;generalize Jp L x.name=fn at *
     cases aS:x.name.toList.isEmpty
     ·rw [aS] at oD;clear ar
      go_wp2_with fail
      have ar:=HS.out wr.drew (Jh (Below.refl _ _));refine Kd (fun w'=>w'.cell? ⟨X,0,none⟩=some (.slice Av L.length cv)/\w'.cell? ⟨X,1,none⟩=some (.slice (some ⟨b,off,none⟩) C.length cc)/\w'.cell? ⟨b,off+k * 4,none⟩=some (.string x.name)) 13 1 Ug Gd ?_;simp only [List.size_toArray,List.length_cons,List.length_nil,Nat.zero_add,Nat.reduceAdd];refine Ji 0 ar ?_;refine Ji 1 ar ?_;refine Ji 3 ar ?_;refine Ji 4 ar ?_;refine Ji 5 ar ?_;refine Ji 6 ar ?_;refine Ji 7 ar ?_;refine Ji 8 ar ?_;refine Kb 2 ?_;refine Jj fun K hK=>?_;go_simp;refine(uh _).mono ?_;rintro r w1 ⟨rfl,ac⟩;dsimp only;have cT:Below wr.heap.size wr w1:=Jd (Jh (Below.refl _ _)) ac;refine hK _ _ ⟨HS.out _ cT,?_⟩;clear hK K
      try simp only [Act.put,sa1,sa2,sa3]
      refine Kb 9 ?_;refine Jj fun K hK=>?_;go_simp;refine(sI.out _ cT).mono ?_;rintro r w2 ⟨rfl,aq⟩;dsimp only;have cF:Below wr.heap.size wr w2:=Jd cT aq;refine hK _ _ ⟨HS.out _ cF,?_⟩;clear hK K
      try simp only [Act.put,sa1,sa2,sa3]
      refine Kb 10 ?_;refine Jj fun K hK=>?_;go_simp;refine(rz _).mono ?_;rintro r w3 ⟨rfl,aM⟩;dsimp only;have cZ:Below wr.heap.size wr w3:=Jd cF aM;refine hK _ _ ⟨HS.out _ cZ,?_⟩;clear hK K
      try simp only [Act.put,sa1,sa2,sa3]
      refine Kb 11 ?_;refine Jj fun K hK=>?_;go_simp;refine hK _ _ ⟨HS.out _ (Jc cZ _),?_⟩;clear hK K
      try simp only [Act.put,sa1,sa2,sa3]
      have fe:=cZ.size;refine Kb 12 ?_;refine Jez (.tmp 61) (.tmp 72) 29 rfl W.heap.size 59 _ 2 16 Tryz.underlying29 Qz rfl Ua u8 lk.length (cdC lk) _ 2 2 (cdC [(4,(k:Int)),(3,fn)]) rfl (Js (Jy ae.out cZ)) rfl (Qr rfl rfl) (Q2 _) Ua Ua Uj ?_;intro v5 w5 bX eT jr;have da:Below W.heap.size W w5:=J2 (Jc (Jn ab cZ ab.size) _) eT (fun b hb=>(ae.out.lt b hb).1) Uj;refine⟨HSW.out _ da,Kh Ug ?_⟩
      try simp only [Act.put,sa1,sa2,sa3]
      refine Qx 13 ?_;refine Jj fun K hK=>?_;go_simp;refine hK _ _ ?_;clear hK K
      try simp only [Act.put,sa1,sa2,sa3]
      refine Ki Ug ?_;have pH:=Lib.hid bX;clear bX eT jr ar
      go_wp2_with fail
      go_roundw
      case rel=>exact⟨k+1,Ua,Up,Lib.hid (by rw [oD.out,if_neg Ul,Jbr,List.length_append];exact pH.out),da⟩
      case measure=>simp [intOf];omega
     ·rw [aS] at oD;clear ar
      go_wp2_with fail
      go_roundw
      case rel=>exact⟨k+1,Ua,Up,Lib.hid (by rw [oD.out,if_pos rfl,List.append_nil];exact ae.out),ab⟩
      case measure=>simp [intOf];omega
    ·obtain rfl:k=C.length:=Ua;obtain⟨Wb,rfl⟩:∃Wb,Wb=wr:=⟨wr,rfl⟩;have dr:=ae.out;rw [List.take_length] at dr hllk;generalize I1 ++ Xx (Jp L) 0 C=I2 at *;have mU:=Lib.hid dr;have q0:=Ja ab HP0.out;have q1:=Ja ab p1;have q2:=Ja ab p2;have q3:=Ja ab HP3.out;have q4:=Ja ab p4;have hbwb:Below w.heap.size w Wb:=Jn dZ ab dZ.size;have hVB:∀b,u8.ownBlock=some b->W.heap.size<=b/\b<Wb.heap.size:=fun b hb=>dr.lt b hb;have kS:=Lib.hid hVB;clear ae dr yG hVB
     go_wp2_with (first|(go_at_call 29;go_loud (refine(pE.out _ Jb).mono ?_;rintro r wo ⟨⟨vo,rfl,ay⟩,cW⟩;obtain⟨Ao,co,rfl,xW,tW⟩:=Jv ay;have hcwo:=Jg cW;have jB:=cW.size)))
     refine Jo fun W3 hW3=>?_;have uk:Below wo.heap.size wo W3:=by rw [hW3];exact Jb
     have aM:Below Wb.heap.size Wb W3:=Jn cW uk jB;have ul:Below W.heap.size W W3:=Jn ab aM ab.size;have yH:=Jy mU.out aM;have hO3:=Jy ay uk;have hOb:∀b,(Value.slice Ao (J1 p).1.length co).ownBlock=some b->Wb.heap.size<=b:=fun b hb=>(hO3.lt b hb).1;have hip:∀W',W3.grownBy W' u8.ownBlock->Yq W' (J1 p).1 Ao co:=fun W' hg=>Yq.of_own (X5 hO3 hg (fun b hb he=>by have:=(kS.out b hb).2;have:=hOb b he;omega));have HIP:=Lib.hid hip;have lQ:=Lib.hid yH;have hol:=lN.out.2.1;unfold maxLen at tW;clear hW3 hcwo jB ay cW uk yH hO3 hOb hip q0 q1 q2 q3 q4 HP0 HP3 pE mU ab bu lu;generalize (J1 p).1=O at *;obtain⟨VO,sL⟩:∃VO,VO=u8:=⟨_,rfl⟩;rw [<-sL] at HIP kS lQ
     go_wp2_with fail
     go_loopw [8,13] (fun V i wr=>∃(k:Nat),k<=O.length/\i = .int .i64 k/\Hid (Zo W.heap.size W3 VO.ownBlock wr V (I2 ++ Xd (Jp L) (Kg C) L p.eqs (O.take k)))) (fun _ i _=>O.length-(intOf i).toNat)
     case atStart=>exact⟨0,Nat.zero_le _,rfl,Lib.hid ⟨by rw [List.take_zero,Xd,List.append_nil,<-sL];exact lQ.out,.inl (by rw [sL]),Zj _ _⟩⟩
     case round=>
      clear lQ;obtain⟨k,dU,rfl,cP⟩:=hrel;have ab:Below W.heap.size W wr:=J2 ul cP.out.grow (fun b hb=>(kS.out b hb).1) ul.size;have bu:=ab.size;have lu:w.heap.size<wr.heap.size:=Ua;have yI:=Jhf (Jp L) (Kg C) L p.eqs (fun q hq c=>eO.out q hq _ _ c) (O.take k);rw [List.length_take] at yI;have yJ:(I2 ++ Xd (Jp L) (Kg C) L p.eqs (O.take k)).length<=10000:=Li
      by_cases jp:k<O.length
      ·have hx:O[k]?=some O[k]:=List.getElem?_eq_getElem jp;have aP:O.take (k+1)=O.take k ++ [O[k]]:=by rw [List.take_succ_eq_append_getElem jp]
       generalize O[k]=jj at hx aP;obtain⟨m,q,rfl,hq⟩:=lN.out.2.2 k jj hx;have aj:=List.mem_of_getElem? hq;obtain⟨j,v,cL,oE,xo,hvn,mW⟩:=yF.out q aj
       have fE:I2 ++ Xd (Jp L) (Kg C) L p.eqs (O.take (k+1))=(I2 ++ Xd (Jp L) (Kg C) L p.eqs (O.take k)) ++ Qk (Jp L) (v.ck,v.cn) (q.e.gen (Jp L) (Kg C) (v.ck,v.cn) ++ [(3,(j:Int))]):=by
        rw [aP,Jif,Jpr _ _ _ _ _ _ hq,<-mW,cL,List.append_assoc]
       have yK:=HIP.out wr cP.out.grow;obtain⟨bo,oo,rfl,lq⟩:=yK.2.2 Ua;have o0:=lq k _ hx;have dW:m<p.eqs.length:=(List.getElem?_eq_some_iff.1 hq).1;have hmlt2:(m:Int)<(p.eqs.length:Int):=Ua;have eU:(0:Int)<=(m:Int):=Ua;obtain⟨b,off,B1,k1,B2,k2,rfl,bG,⟨g0',g1',g2',g3',g4',g5',g6',g7',g8',g9',sf,se⟩⟩:=gj.out.eqs.get hq;have ar:wr.drew.cell? ⟨w.heap.size,4,none⟩=some (.slice (some ⟨b,off,none⟩) p.eqs.length c4)/\wr.drew.cell? ⟨bo,oo+k,none⟩=some (.int .i64 (m:Int))/\wr.drew.cell? ⟨b,off+m * 10,none⟩=some (.string q.name)/\wr.drew.cell? ⟨b,off+m * 10+1,none⟩=some (.int .i64 q.delay)/\wr.drew.cell? ⟨b,off+m * 10+2,none⟩=some (.int .i64 q.first.kind)/\wr.drew.cell? ⟨b,off+m * 10+3,none⟩=some (.int .i32 q.first.n)/\wr.drew.cell? ⟨b,off+m * 10+4,none⟩=some (.string q.first.name)/\wr.drew.cell? ⟨b,off+m * 10+5,none⟩=some (.slice B1 q.first.sub.length k1)/\wr.drew.cell? ⟨b,off+m * 10+6,none⟩=some (.int .i64 q.e.kind)/\wr.drew.cell? ⟨b,off+m * 10+7,none⟩=some (.int .i32 q.e.n)/\wr.drew.cell? ⟨b,off+m * 10+8,none⟩=some (.string q.e.name)/\wr.drew.cell? ⟨b,off+m * 10+9,none⟩=some (.slice B2 q.e.sub.length k2):=⟨Ja ab p4,o0,Ja ab g0',Ja ab g1',Ja ab g2',Ja ab g3',Ja ab g4',Ja ab g5',Ja ab g6',Ja ab g7',Ja ab g8',Ja ab g9'⟩;have oD:=Lib.hid fE;have hglen:=eO.out q aj (Jp L) (Kg C) (v.ck,v.cn);have iN:=fun W' (hb:Below W.heap.size W W')=>ui.out q aj B2 k2 v.ck v.cn W' (gj.out.va.later hb) (gj.out.ce.later hb) (se.later hb);unfold exV at iN;have hvck:=(nA.out v xo).ck;have mX:j<L.length:=(List.getElem?_eq_some_iff.1 oE).1;obtain⟨bv,ov,rfl,hbv2,⟨e0',e1',e2',e3'⟩⟩:=gj.out.va.get oE;have HRX:=Lib.hid iN;have HRF:=Lib.hid cL;have hHS:∀(o:Obj),(wr.drew.alloc o).cell? ⟨w.heap.size,4,none⟩=some (.slice (some ⟨b,off,none⟩) p.eqs.length c4)/\(wr.drew.alloc o).cell? ⟨bo,oo+k,none⟩=some (.int .i64 (m:Int))/\(wr.drew.alloc o).cell? ⟨b,off+m * 10,none⟩=some (.string q.name)/\(wr.drew.alloc o).cell? ⟨b,off+m * 10+1,none⟩=some (.int .i64 q.delay)/\(wr.drew.alloc o).cell? ⟨b,off+m * 10+2,none⟩=some (.int .i64 q.first.kind)/\(wr.drew.alloc o).cell? ⟨b,off+m * 10+3,none⟩=some (.int .i32 q.first.n)/\(wr.drew.alloc o).cell? ⟨b,off+m * 10+4,none⟩=some (.string q.first.name)/\(wr.drew.alloc o).cell? ⟨b,off+m * 10+5,none⟩=some (.slice B1 q.first.sub.length k1)/\(wr.drew.alloc o).cell? ⟨b,off+m * 10+6,none⟩=some (.int .i64 q.e.kind)/\(wr.drew.alloc o).cell? ⟨b,off+m * 10+7,none⟩=some (.int .i32 q.e.n)/\(wr.drew.alloc o).cell? ⟨b,off+m * 10+8,none⟩=some (.string q.e.name)/\(wr.drew.alloc o).cell? ⟨b,off+m * 10+9,none⟩=some (.slice B2 q.e.sub.length k2):=fun o=>⟨J4 ar.1,J4 ar.2.1,J4 ar.2.2.1,J4 ar.2.2.2.1,J4 ar.2.2.2.2.1,J4 ar.2.2.2.2.2.1,J4 ar.2.2.2.2.2.2.1,J4 ar.2.2.2.2.2.2.2.1,J4 ar.2.2.2.2.2.2.2.2.1,J4 ar.2.2.2.2.2.2.2.2.2.1,J4 ar.2.2.2.2.2.2.2.2.2.2.1,J4 ar.2.2.2.2.2.2.2.2.2.2.2⟩;have HHS:=Lib.hid hHS;clear hx aP hq aj cL oE xo hvn mW fE yK lq o0 bG hbv2 e0' e1' g0' g1' g2' g3' g4' g5' g6' g7' g8' g9' sf se iN hHS yI;generalize q.e.gen (Jp L) (Kg C) (v.ck,v.cn)=xc at *;generalize I2 ++ Xd (Jp L) (Kg C) L p.eqs (O.take k)=lk at *;have p4r:=Ja ab p4
       go_wp2_with fail
       refine Kd (fun w'=>w'.cell? ⟨w.heap.size,4,none⟩=some (.slice (some ⟨b,off,none⟩) p.eqs.length c4)/\w'.cell? ⟨bo,oo+k,none⟩=some (.int .i64 (m:Int))/\w'.cell? ⟨b,off+m * 10,none⟩=some (.string q.name)/\w'.cell? ⟨b,off+m * 10+1,none⟩=some (.int .i64 q.delay)/\w'.cell? ⟨b,off+m * 10+2,none⟩=some (.int .i64 q.first.kind)/\w'.cell? ⟨b,off+m * 10+3,none⟩=some (.int .i32 q.first.n)/\w'.cell? ⟨b,off+m * 10+4,none⟩=some (.string q.first.name)/\w'.cell? ⟨b,off+m * 10+5,none⟩=some (.slice B1 q.first.sub.length k1)/\w'.cell? ⟨b,off+m * 10+6,none⟩=some (.int .i64 q.e.kind)/\w'.cell? ⟨b,off+m * 10+7,none⟩=some (.int .i32 q.e.n)/\w'.cell? ⟨b,off+m * 10+8,none⟩=some (.string q.e.name)/\w'.cell? ⟨b,off+m * 10+9,none⟩=some (.slice B2 q.e.sub.length k2)) 9 1 Ug Gd ?_;simp only [List.size_toArray,List.length_cons,List.length_nil,Nat.zero_add,Nat.reduceAdd];refine Ji 0 ar ?_;refine Ji 1 ar ?_;refine Ji 2 ar ?_;refine Ji 3 ar ?_;refine Ji 4 ar ?_;refine Ji 5 ar ?_;refine Ji 6 ar ?_;refine Ji 7 ar ?_;refine Kb 8 ?_;refine Jj fun K hK=>?_;go_simp;refine hK _ _ ⟨HHS.out _,?_⟩;clear hK K
       try simp only [Act.put,sa1,sa2,sa3]
       refine Kh Ug ?_;refine Qx 9 ?_;refine Jj fun K hK=>?_;go_simp;refine hK _ _ ?_;clear hK K
       try simp only [Act.put,sa1,sa2,sa3]
       refine Ki Ug ?_;refine Zc fun V hV=>?_;have bK:Below wr.heap.size wr V:=by rw [hV];exact Jh (Jc (Below.refl _ _) _)
       have mQ:V.heap.size=wr.heap.size+1:=Sc;have q0:V.cell? ⟨wr.heap.size,0,none⟩=some (.string q.name):=L8;have q6:V.cell? ⟨wr.heap.size,6,none⟩=some (.int .i64 q.e.kind):=L8;have q7:V.cell? ⟨wr.heap.size,7,none⟩=some (.int .i32 q.e.n):=L8;have q8:V.cell? ⟨wr.heap.size,8,none⟩=some (.string q.e.name):=L8;have q9:V.cell? ⟨wr.heap.size,9,none⟩=some (.slice B2 q.e.sub.length k2):=L8;have pI:Below W.heap.size W V:=Jn ab bK ab.size;have hmV:=gj.out.later pI;have m0:=hmV.m0;have m1:=hmV.m1
       have dF:∀W',Below V.heap.size V W'->Calls Tryz.prog 28 #[.agg #[.slice (some ⟨bv,ov,none⟩) L.length cv,.slice Ac C.length cc],.string q.name] W' fun r w'=>r = .returned (.int .i64 (j:Int))/\Below W'.heap.size W' w':=fun W' hb=>by
        have h:=Jdt L (some ⟨bv,ov,none⟩) cv (.slice Ac C.length cc) q.name W' (gj.out.va.later (Jn pI hb pI.size));rw [HRF.out] at h;exact h
       have sI:=Lib.hid dF;have hyV:wr.heap.size<V.heap.size:=Ua;clear hV hmV dF ar HHS
       go_upto_region 21 with (first|(go_at_call 28;go_loud (refine(sI.out _ (Below.refl _ _)).mono ?_;rintro r w1 ⟨rfl,ac⟩)))
       refine Jo fun V2 bz=>?_;have aq:Below V.heap.size V V2:=by rw [bz];exact ac
       have br:=aq.size;have pJ:Below W.heap.size W V2:=Jn pI aq pI.size
       have um:∀w',Below V2.heap.size V2 w'->w'.cell? ⟨X,0,none⟩=some (.slice (some ⟨bv,ov,none⟩) L.length cv)/\w'.cell? ⟨X,1,none⟩=some (.slice Ac C.length cc)/\w'.cell? ⟨wr.heap.size,6,none⟩=some (.int .i64 q.e.kind)/\w'.cell? ⟨wr.heap.size,7,none⟩=some (.int .i32 q.e.n)/\w'.cell? ⟨wr.heap.size,8,none⟩=some (.string q.e.name)/\w'.cell? ⟨wr.heap.size,9,none⟩=some (.slice B2 q.e.sub.length k2)/\w'.cell? ⟨bv,ov+j * 4+2,none⟩=some (.int .i64 v.ck)/\w'.cell? ⟨bv,ov+j * 4+3,none⟩=some (.string v.cn):=fun w' hb=>
        have aC:=Jn pJ hb pJ.size
        ⟨Ja aC gj.out.m0,Ja aC gj.out.m1,Ja hb (Ja aq q6),Ja hb (Ja aq q7),Ja hb (Ja aq q8),Ja hb (Ja aq q9),Ja aC e2',Ja aC e3'⟩
       have HS21:=Lib.hid um;have ar:=um V2.drew (Jh (Below.refl _ _));have yL:(j:Int)<(L.length:Int):=Ua;have wP:(0:Int)<=(j:Int):=Ua;have hj32:I32 (j:Int):=Vh;clear bz ac um m0 m1 q0 q6 q7 q8 q9 sI;refine Kd (fun w'=>w'.cell? ⟨X,0,none⟩=some (.slice (some ⟨bv,ov,none⟩) L.length cv)/\w'.cell? ⟨X,1,none⟩=some (.slice Ac C.length cc)/\w'.cell? ⟨wr.heap.size,6,none⟩=some (.int .i64 q.e.kind)/\w'.cell? ⟨wr.heap.size,7,none⟩=some (.int .i32 q.e.n)/\w'.cell? ⟨wr.heap.size,8,none⟩=some (.string q.e.name)/\w'.cell? ⟨wr.heap.size,9,none⟩=some (.slice B2 q.e.sub.length k2)/\w'.cell? ⟨bv,ov+j * 4+2,none⟩=some (.int .i64 v.ck)/\w'.cell? ⟨bv,ov+j * 4+3,none⟩=some (.string v.cn)) 10 1 Ug Gd ?_;simp only [List.size_toArray,List.length_cons,List.length_nil,Nat.zero_add,Nat.reduceAdd];refine Ji 0 ar ?_;refine Ji 1 ar ?_;refine Ji 2 ar ?_;refine Ji 3 ar ?_;refine Ji 4 ar ?_;refine Ji 5 ar ?_;refine Ji 6 ar ?_;refine Ji 7 ar ?_;refine Ji 8 ar ?_;refine Kb 9 ?_;refine Jj fun K hK=>?_;go_simp;refine(HRX.out V2.drew (Jh pJ)).mono ?_;rintro r w4 ⟨⟨u,rfl,hu⟩,ei⟩;dsimp only;have gu:Below V2.heap.size V2 w4:=Jd (Jh (Below.refl _ _)) ei;refine hK _ _ ⟨HS21.out _ gu,?_⟩;clear hK K
       try simp only [Act.put,sa1,sa2,sa3]
       refine Kh Ug ?_;refine Qx 10 ?_;refine Jj fun K hK=>?_;go_simp;refine hK _ _ ?_;clear hK K
       try simp only [Act.put,sa1,sa2,sa3]
       refine Ki Ug ?_;have qS:=gu.size;have rz:=fun W'=>Xo 3 (j:Int) hj32 W';clear ar HRX
       go_upto_region 23 with (first
        | (go_at_call 27;go_loud (refine(rz _).mono ?_;rintro r w5 ⟨rfl,da⟩;have yx:=da.size))
        | (at_builtin;go_loud (refine K6 rfl (.tmp 107) (.tmp 110) 29 rfl V2.heap.size 59 _ 2 16 Tryz.underlying29 Qz rfl Ua u xc.length (cdC xc) _ 1 1 (cdC [(3,(j:Int))]) rfl (Js (Jy hu da)) rfl (Qr rfl rfl) (Q2 _) Ua Ua Uj ?_;intro v6 w6 fi yM)))
       refine Jo fun V6 un=>?_;have hb26:Below V2.heap.size V2 V6:=by rw [un];exact Below.trans (Jc (Below.trans gu (da.mono qS)) _) yM
       have nH:Below wr.heap.size wr V6:=Jn bK (Jn aq hb26 br) bK.size;have gT:Below W.heap.size W V6:=Jn ab nH ab.size;have fZ:V6.ownsRow V2.heap.size 59 2 v6 (xc ++ [(3,(j:Int))]).length (cdC (xc ++ [(3,(j:Int))])):=by rw [un,List.length_append,Jbr];exact fi
       have lB:(xc ++ [(3,(j:Int))]).length<=361:=by rw [List.length_append];simp;omega
       clear un fi yM da ei gu hu rz;generalize xc ++ [(3,(j:Int))]=xx at *;have lY:∀b,u8.ownBlock=some b->W.heap.size<=b/\b<wr.heap.size:=fun b hb=>cP.out.own.lt b hb;have pK:Jf1 V6.drew u8.ownBlock fun W'=>W'.ownsRow V2.heap.size 59 2 v6 xx.length (cdC xx):=fun W' hg=>X5 (Kp fZ) hg (fun b hb he=>by have:=(lY b hb).2;have:=(fZ.lt b he).1;omega);obtain⟨Ax,cx,rfl,hcx1,uo⟩:=Jv fZ
       have lZ:=Jlp W.heap.size u8 L (.slice Ac C.length cc) (some ⟨bv,ov,none⟩) cv lk xx Ax cx v.ck v.cn V6.drew gT.size (Kp (Jy cP.out.own nH)) (fun W' hg=>by
        obtain⟨A',c',nI,aY⟩:=J3.of_own (pK W' hg);injection nI with y1 y2 y3;subst y1 y3;exact aY) (fun W' hg=>gj.out.va.later (J2 (Jh gT) hg (fun b hb=>(lY b hb).1) gT.size)) hL6 hvck Ua
       unfold Jcc at lZ
       have up:∀w',Below W.heap.size W w'->w'.cell? ⟨X,0,none⟩=some (.slice (some ⟨bv,ov,none⟩) L.length cv)/\w'.cell? ⟨X,1,none⟩=some (.slice Ac C.length cc)/\w'.cell? ⟨bv,ov+j * 4+2,none⟩=some (.int .i64 v.ck)/\w'.cell? ⟨bv,ov+j * 4+3,none⟩=some (.string v.cn):=fun w' hb=>
        ⟨Ja hb gj.out.m0,Ja hb gj.out.m1,Ja hb e2',Ja hb e3'⟩
       have HS23:=Lib.hid up;have ar:=up V6.drew (Jh gT);have pL:=Lib.hid lZ;unfold maxLen at uo;clear lZ up pK;refine Kd (fun w'=>w'.cell? ⟨X,0,none⟩=some (.slice (some ⟨bv,ov,none⟩) L.length cv)/\w'.cell? ⟨X,1,none⟩=some (.slice Ac C.length cc)/\w'.cell? ⟨bv,ov+j * 4+2,none⟩=some (.int .i64 v.ck)/\w'.cell? ⟨bv,ov+j * 4+3,none⟩=some (.string v.cn)) 10 1 Ug Gd ?_;simp only [List.size_toArray,List.length_cons,List.length_nil,Nat.zero_add,Nat.reduceAdd];refine Ji 0 ar ?_;refine Ji 1 ar ?_;refine Ji 2 ar ?_;refine Ji 3 ar ?_;refine Ji 4 ar ?_;refine Ji 5 ar ?_;refine Ji 6 ar ?_;refine Ji 7 ar ?_;refine Ji 8 ar ?_;refine Kb 9 ?_;refine Jj fun K hK=>?_;go_simp;refine(pL.out).mono ?_;rintro r w7 ⟨v7,rfl,hR⟩;dsimp only;have hB7:Below W.heap.size W w7:=J2 (Jh gT) hR.grow (fun b hb=>(lY b hb).1) gT.size;refine hK _ _ ⟨HS23.out _ hB7,?_⟩;clear hK K
       try simp only [Act.put,sa1,sa2,sa3]
       refine Kh Ug ?_;refine Qx 10 ?_;refine Jj fun K hK=>?_;go_simp;refine hK _ _ ?_;clear hK K
       try simp only [Act.put,sa1,sa2,sa3]
       refine Ki Ug ?_;have HR:=Lib.hid ((cP.out.bel (Jh nH)).next hR);clear ar hR pL
       go_wp2_with fail
       go_roundw
       case rel=>exact⟨k+1,Ua,Up,Lib.hid (by rw [oD.out];exact HR.out)⟩
       case measure=>simp [intOf];omega
      ·obtain rfl:k=O.length:=Ua;have hR:=cP.out;rw [List.take_length] at hR yJ;generalize I2 ++ Xd (Jp L) (Kg C) L p.eqs O=I3 at *;have yH:=hR.own;have lQ:=Lib.hid yH;clear cP hR yH HIP kS sL ul aM hol lN
       go_wp2_with fail
       go_loopw [8,17] (fun V i wr=>∃(k:Nat),k<=C.length/\i = .int .i64 k/\Hid (wr.ownsRow W.heap.size 59 2 V (I3 ++ Xw (Jp L) (Kg C) p.eqs 0 (C.take k)).length (cdC (I3 ++ Xw (Jp L) (Kg C) p.eqs 0 (C.take k))))/\Below W.heap.size W wr) (fun _ i _=>C.length-(intOf i).toNat)
       case atStart=>exact⟨0,Nat.zero_le _,rfl,Lib.hid (by rw [List.take_zero,Xw,List.append_nil];exact lQ.out),ab⟩
       case round=>
        clear lQ ab bu lu;obtain⟨k,iA,rfl,ae,ab⟩:=hrel;obtain⟨Wk,rfl⟩:∃Wk,Wk=wr:=⟨wr,rfl⟩;have bu:=ab.size;have lu:w.heap.size<Wk.heap.size:=Ua;have pM:=Jm5 (Jp L) (Kg C) p.eqs (fun q hq c=>eO.out q hq _ _ c) (C.take k) 0;rw [List.length_take] at pM;have yN:(I3 ++ Xw (Jp L) (Kg C) p.eqs 0 (C.take k)).length<=30000:=Li
        by_cases uq:k<C.length
        ·have hx:C[k]?=some C[k]:=List.getElem?_eq_getElem uq;have aP:C.take (k+1)=C.take k ++ [C[k]]:=by rw [List.take_succ_eq_append_getElem uq]
         have xU:=oV.out C[k] (List.getElem_mem uq);generalize C[k]=x at hx aP xU
         have fE:I3 ++ Xw (Jp L) (Kg C) p.eqs 0 (C.take (k+1))=(I3 ++ Xw (Jp L) (Kg C) p.eqs 0 (C.take k)) ++ Qk (Jp L) (x.ck,x.cn) (Zm (Jp L) (Kg C) x [(1,1)] p.eqs ++ [(5,(k:Int))]):=by
          rw [aP,Jkr,List.length_take,show 0+min k C.length=k by omega,List.append_assoc]
         obtain⟨b,off,rfl,cB⟩:=gj.out.ce.2.2.2 Ua;have aY:=Jdh C k x hx;have d0:=cB _ _ aY.1;have d1:=cB _ _ aY.2.1;have d2:=cB _ _ aY.2.2.1;have oD:=Lib.hid fE;have gh:I32 1:=Vh;have kQ:I32 (k:Int):=Vh;have hxlen:=Jio (Jp L) (Kg C) x p.eqs [(1,1)] (fun q hq c=>eO.out q hq _ _ c) Ul;clear hx aP cB aY fE pM;generalize I3 ++ Xw (Jp L) (Kg C) p.eqs 0 (C.take k)=lk at *;have aH:=block_lt_of_cell d0
         go_wp2_with (first|(go_at_call 27;go_loud (refine(Xo 1 1 gh _).mono ?_;rintro r w1 ⟨rfl,ac⟩;have af:=ac.size)))
         go_loopw [18,19] (fun Y i wr=>∃(j:Nat),j<=p.eqs.length/\i = .int .i64 j/\Hid (wr.ownsRow Wk.heap.size 59 2 Y (Zm (Jp L) (Kg C) x [(1,1)] (p.eqs.take j)).length (cdC (Zm (Jp L) (Kg C) x [(1,1)] (p.eqs.take j))))/\Below Wk.heap.size Wk wr) (fun _ i _=>p.eqs.length-(intOf i).toNat)
         case atStart=>exact⟨0,Nat.zero_le _,rfl,Lib.hid (by rw [List.take_zero];exact K8 (Jex w1 (1,1) 59) af),Jc ac _⟩
         case round=>
          clear ac af;obtain⟨j,hj,rfl,hox,dQ⟩:=hrel;have hzj:=dQ.size;have nJ:Below W.heap.size W wr:=Jn ab dQ ab.size;have hyw2:w.heap.size<wr.heap.size:=Ua;have p4j:=Ja nJ p4;have hk4i:(k:Int)<(C.length:Int):=Ua
          by_cases nK:j<p.eqs.length
          ·have hx:p.eqs[j]?=some p.eqs[j]:=List.getElem?_eq_getElem nK;have aj:p.eqs[j]∈p.eqs:=List.getElem_mem nK;have aP:p.eqs.take (j+1)=p.eqs.take j ++ [p.eqs[j]]:=by rw [List.take_succ_eq_append_getElem nK]
           generalize p.eqs[j]=q at hx aj aP;have hkx:=Jso (Jp L) (Kg C) x (p.eqs.take j) q [(1,1)];rw [<-aP] at hkx;obtain⟨b',off',B1,k1,B2,k2,rfl,bG,⟨g0',g1',g2',g3',g4',g5',g6',g7',g8',g9',sf,se⟩⟩:=gj.out.eqs.get hx;have iN:=fun W' (hb:Below W.heap.size W W')=>ui.out q aj B2 k2 x.ck x.cn W' (gj.out.va.later hb) (gj.out.ce.later hb) (se.later hb);unfold exV at iN;have n0:=Ja nJ d0;have n1:=Ja nJ g0';have wQ:=Lib.hid hkx
           have hS:∀w',Below W.heap.size W w'->w'.cell? ⟨X,0,none⟩=some (.slice Av L.length cv)/\w'.cell? ⟨X,1,none⟩=some (.slice (some ⟨b,off,none⟩) C.length cc)/\w'.cell? ⟨w.heap.size,4,none⟩=some (.slice (some ⟨b',off',none⟩) p.eqs.length c4)/\w'.cell? ⟨b',off'+j * 10+6,none⟩=some (.int .i64 q.e.kind)/\w'.cell? ⟨b',off'+j * 10+7,none⟩=some (.int .i32 q.e.n)/\w'.cell? ⟨b',off'+j * 10+8,none⟩=some (.string q.e.name)/\w'.cell? ⟨b',off'+j * 10+9,none⟩=some (.slice B2 q.e.sub.length k2)/\w'.cell? ⟨b,off+k * 4+1,none⟩=some (.int .i64 x.ck)/\w'.cell? ⟨b,off+k * 4+2,none⟩=some (.string x.cn):=fun w' hb=>
            ⟨Ja hb gj.out.m0,Ja hb gj.out.m1,Ja hb p4,Ja hb g6',Ja hb g7',Ja hb g8',Ja hb g9',Ja hb d1,Ja hb d2⟩
           have HS:=Lib.hid hS;have ar:=hS wr.drew (Jh nJ);have HRX:=Lib.hid iN;have ur:=block_lt_of_cell n0;have hbb4:=block_lt_of_cell n1;clear hx aj aP hkx bG g0' g1' g2' g3' g4' g5' g6' g7' g8' g9' sf se iN hS aH;generalize Zm (Jp L) (Kg C) x [(1,1)] (p.eqs.take j)=kx at *;generalize q.e.gen (Jp L) (Kg C) (x.ck,x.cn)=xc at *
           cases aS:x.name.toList.isEmpty
           ·cases ou:(q.name.toList == x.name.toList)
            ·rw [aS,ou] at wQ;exact Uba
            ·rw [aS,ou] at wQ;clear ar
             go_wp2_with fail
             go_quiet (fail)
             go_wp2_with fail
             refine Jo fun wj hwj=>?_;have yO:Below wr.heap.size wr wj:=by rw [hwj];exact J8 (Below.refl _ _) _
             have hBj:Below W.heap.size W wj:=Jn nJ yO nJ.size;have hBk:Below Wk.heap.size Wk wj:=Jn dQ yO dQ.size;have ar:=HS.out wj.drew (Jh hBj);have hzjj:=hBk.size;clear hwj;refine Kd (fun w'=>w'.cell? ⟨X,0,none⟩=some (.slice Av L.length cv)/\w'.cell? ⟨X,1,none⟩=some (.slice (some ⟨b,off,none⟩) C.length cc)/\w'.cell? ⟨w.heap.size,4,none⟩=some (.slice (some ⟨b',off',none⟩) p.eqs.length c4)/\w'.cell? ⟨b',off'+j * 10+6,none⟩=some (.int .i64 q.e.kind)/\w'.cell? ⟨b',off'+j * 10+7,none⟩=some (.int .i32 q.e.n)/\w'.cell? ⟨b',off'+j * 10+8,none⟩=some (.string q.e.name)/\w'.cell? ⟨b',off'+j * 10+9,none⟩=some (.slice B2 q.e.sub.length k2)/\w'.cell? ⟨b,off+k * 4+1,none⟩=some (.int .i64 x.ck)/\w'.cell? ⟨b,off+k * 4+2,none⟩=some (.string x.cn)) 13 1 Ug Gd ?_;simp only [List.size_toArray,List.length_cons,List.length_nil,Nat.zero_add,Nat.reduceAdd];refine Ji 0 ar ?_;refine Ji 1 ar ?_;refine Ji 2 ar ?_;refine Ji 3 ar ?_;refine Ji 4 ar ?_;refine Ji 5 ar ?_;refine Ji 6 ar ?_;refine Ji 7 ar ?_;refine Ji 8 ar ?_;refine Ji 9 ar ?_;refine Ji 10 ar ?_;refine Ji 11 ar ?_;refine Kb 12 ?_;refine Jj fun K hK=>?_;go_simp;refine(HRX.out wj.drew (Jh hBj)).mono ?_;rintro r w4 ⟨⟨u,rfl,hu⟩,ei⟩;dsimp only;have gu:Below wj.heap.size wj w4:=Jd (Jh (Below.refl _ _)) ei;refine hK _ _ ⟨HS.out _ (Jn hBj gu hBj.size),?_⟩;clear hK K
             try simp only [Act.put,sa1,sa2,sa3]
             refine Kh Ug ?_;refine Qx 13 ?_;refine Jj fun K hK=>?_;go_simp;refine hK _ _ ?_;clear hK K
             try simp only [Act.put,sa1,sa2,sa3]
             refine Ki Ug ?_;have hu':=Lib.hid (K8 hu (B':=Wk.heap.size) hzjj);have hB4k:Below Wk.heap.size Wk w4:=Jn hBk gu hBk.size;clear ar hu
             go_wp2_with fail
             go_roundw
             case rel=>exact⟨j+1,Ua,Up,Lib.hid (by rw [wQ.out,if_pos Ul];exact hu'.out),hB4k⟩
             case measure=>simp [intOf];omega
           ·rw [aS] at wQ;exact Uba
          ·obtain rfl:j=p.eqs.length:=Ua;have hxo:=hox.out;rw [List.take_length] at hxo;generalize Zm (Jp L) (Kg C) x [(1,1)] p.eqs=xc at *;have HXO:=Lib.hid hxo;have yP:=fun W'=>Xo 5 (k:Int) kQ W';clear hox hxo
           go_upto_region 34 with (first
            | (go_at_call 27;go_loud (refine(yP _).mono ?_;rintro r w5 ⟨rfl,da⟩;have yx:=da.size))
            | (at_builtin;go_loud (refine K6 rfl (.tmp 170) (.tmp 173) 29 rfl Wk.heap.size 59 _ 2 16 Tryz.underlying29 Qz rfl Ua u18 xc.length (cdC xc) _ 1 1 (cdC [(5,(k:Int))]) rfl (Js (Jy HXO.out da)) rfl (Qr rfl rfl) (Q2 _) Ua Ua Uj ?_;intro v6 w6 fi yM)))
           refine Jo fun V6 un=>?_;have nH:Below Wk.heap.size Wk V6:=by rw [un];exact Below.trans (Jc (Below.trans dQ (da.mono hzj)) _) yM
           have gT:Below W.heap.size W V6:=Jn ab nH ab.size;have fZ:V6.ownsRow Wk.heap.size 59 2 v6 (xc ++ [(5,(k:Int))]).length (cdC (xc ++ [(5,(k:Int))])):=by rw [un,List.length_append,Jbr];exact fi
           have lB:(xc ++ [(5,(k:Int))]).length<=361:=by rw [List.length_append];simp;omega
           clear un fi yM da yP HXO;generalize xc ++ [(5,(k:Int))]=xx at *;have lY:∀b,u8.ownBlock=some b->W.heap.size<=b/\b<Wk.heap.size:=fun b hb=>ae.out.lt b hb;have pK:Jf1 V6.drew u8.ownBlock fun W'=>W'.ownsRow Wk.heap.size 59 2 v6 xx.length (cdC xx):=fun W' hg=>X5 (Kp fZ) hg (fun b hb he=>by have:=(lY b hb).2;have:=(fZ.lt b he).1;omega);obtain⟨Ax,cx,rfl,hcx1,uo⟩:=Jv fZ
           have lZ:=Jlp W.heap.size u8 L (.slice (some ⟨b,off,none⟩) C.length cc) Av cv lk xx Ax cx x.ck x.cn V6.drew gT.size (Kp (Jy ae.out nH)) (fun W' hg=>by
            obtain⟨A',c',nI,aY⟩:=J3.of_own (pK W' hg);injection nI with y1 y2 y3;subst y1 y3;exact aY) (fun W' hg=>gj.out.va.later (J2 (Jh gT) hg (fun b hb=>(lY b hb).1) gT.size)) hL6 xU Ua
           unfold Jcc at lZ
           have ut:∀w',Below W.heap.size W w'->w'.cell? ⟨X,0,none⟩=some (.slice Av L.length cv)/\w'.cell? ⟨X,1,none⟩=some (.slice (some ⟨b,off,none⟩) C.length cc)/\w'.cell? ⟨b,off+k * 4+1,none⟩=some (.int .i64 x.ck)/\w'.cell? ⟨b,off+k * 4+2,none⟩=some (.string x.cn):=fun w' hb=>
            ⟨Ja hb gj.out.m0,Ja hb gj.out.m1,Ja hb d1,Ja hb d2⟩
           have HS34:=Lib.hid ut;have ar:=ut V6.drew (Jh gT);have pL:=Lib.hid lZ;unfold maxLen at uo;clear lZ ut pK;refine Kd (fun w'=>w'.cell? ⟨X,0,none⟩=some (.slice Av L.length cv)/\w'.cell? ⟨X,1,none⟩=some (.slice (some ⟨b,off,none⟩) C.length cc)/\w'.cell? ⟨b,off+k * 4+1,none⟩=some (.int .i64 x.ck)/\w'.cell? ⟨b,off+k * 4+2,none⟩=some (.string x.cn)) 9 1 Ug Gd ?_;simp only [List.size_toArray,List.length_cons,List.length_nil,Nat.zero_add,Nat.reduceAdd];refine Ji 0 ar ?_;refine Ji 1 ar ?_;refine Ji 2 ar ?_;refine Ji 3 ar ?_;refine Ji 4 ar ?_;refine Ji 5 ar ?_;refine Ji 6 ar ?_;refine Ji 7 ar ?_;refine Kb 8 ?_;refine Jj fun K hK=>?_;go_simp;refine(pL.out).mono ?_;rintro r w7 ⟨v7,rfl,hR⟩;dsimp only;have hB7:Below W.heap.size W w7:=J2 (Jh gT) hR.grow (fun b hb=>(lY b hb).1) gT.size;refine hK _ _ ⟨HS34.out _ hB7,?_⟩;clear hK K
           try simp only [Act.put,sa1,sa2,sa3]
           refine Kh Ug ?_;refine Qx 9 ?_;refine Jj fun K hK=>?_;go_simp;refine hK _ _ ?_;clear hK K
           try simp only [Act.put,sa1,sa2,sa3]
           refine Ki Ug ?_;have HR:=Lib.hid hR.own;clear ar hR pL
           go_wp2_with fail
           go_roundw
           case rel=>exact⟨k+1,Ua,Up,Lib.hid (by rw [oD.out];exact HR.out),hB7⟩
           case measure=>simp [intOf];omega
        ·obtain rfl:k=C.length:=Ua;have dr:=ae.out;rw [List.take_length] at dr yN;generalize I3 ++ Xw (Jp L) (Kg C) p.eqs 0 C=I4 at *;have qP:=Lib.hid dr;clear ae dr pM
         go_wp2_with fail
         go_loopw [8,20] (fun V i wr=>∃(k:Nat),k<=p.outs.length/\i = .int .i64 k/\Hid (wr.ownsRow W.heap.size 59 2 V (I4 ++ Xl (Jp L) 0 (p.outs.take k)).length (cdC (I4 ++ Xl (Jp L) 0 (p.outs.take k))))/\Below W.heap.size W wr) (fun _ i _=>p.outs.length-(intOf i).toNat)
         case atStart=>exact⟨0,Nat.zero_le _,rfl,Lib.hid (by rw [List.take_zero,Xl,List.append_nil];exact qP.out),ab⟩
         case round=>
          clear qP ab bu lu;obtain⟨k,hk5,rfl,ae,ab⟩:=hrel;have bu:=ab.size;have lu:w.heap.size<wr.heap.size:=Ua;have uu:=Jhh (Jp L) (p.outs.take k) 0;rw [List.length_take] at uu;have yQ:(I4 ++ Xl (Jp L) 0 (p.outs.take k)).length<=40000:=Li;have p2r:=Ja ab p2
          by_cases rA:k<p.outs.length
          ·have hx:p.outs[k]?=some p.outs[k]:=List.getElem?_eq_getElem rA;have aP:p.outs.take (k+1)=p.outs.take k ++ [p.outs[k]]:=by rw [List.take_succ_eq_append_getElem rA]
           generalize p.outs[k]=x at hx aP;obtain⟨b,off,rfl,bG,⟨d0',d1',d2',d3'⟩⟩:=gj.out.outs.get hx
           have fE:I4 ++ Xl (Jp L) 0 (p.outs.take (k+1))=(I4 ++ Xl (Jp L) 0 (p.outs.take k)) ++ [(2,Jp L x.name),(7,(k:Int))]:=by
            rw [aP,Jhy,List.length_take,show 0+min k p.outs.length=k by omega,List.append_assoc]
           have hS:∀w',Below W.heap.size W w'->w'.cell? ⟨X,0,none⟩=some (.slice Av L.length cv)/\w'.cell? ⟨X,1,none⟩=some (.slice Ac C.length cc)/\w'.cell? ⟨w.heap.size,2,none⟩=some (.slice (some ⟨b,off,none⟩) p.outs.length c2)/\w'.cell? ⟨b,off+k * 4,none⟩=some (.string x.name):=fun w' hb=>
            ⟨Ja hb gj.out.m0,Ja hb gj.out.m1,Ja hb p2,Ja hb d0'⟩
           have HSW:=Lib.hid hS;have HS:=Lib.hid (fun w' (hb:Below wr.heap.size wr w')=>hS w' (Jn ab hb ab.size));have ar:=hS wr.drew (Jh ab);have dF:=fun W' (hb:Below wr.heap.size wr W')=>Jdt L Av cv (.slice Ac C.length cc) x.name W' (gj.out.va.later (Jn ab hb ab.size));have kQ:I32 (k:Int):=Vh;have hin7:=fun W'=>Xo 7 (k:Int) kQ W';have pC:=fun W'=>Xo 2 (Jp L x.name) (uf x.name) W';have sI:=Lib.hid dF;have oD:=Lib.hid fE;clear hx aP fE hS dF bG d0' d1' d2' d3' uu;generalize I4 ++ Xl (Jp L) 0 (p.outs.take k)=lk at *;generalize Jp L x.name=fn at *
           go_wp2_with fail
           refine Kd (fun w'=>w'.cell? ⟨X,0,none⟩=some (.slice Av L.length cv)/\w'.cell? ⟨X,1,none⟩=some (.slice Ac C.length cc)/\w'.cell? ⟨w.heap.size,2,none⟩=some (.slice (some ⟨b,off,none⟩) p.outs.length c2)/\w'.cell? ⟨b,off+k * 4,none⟩=some (.string x.name)) 14 1 Ug Gd ?_;simp only [List.size_toArray,List.length_cons,List.length_nil,Nat.zero_add,Nat.reduceAdd];refine Ji 0 ar ?_;refine Ji 1 ar ?_;refine Ji 2 ar ?_;refine Ji 3 ar ?_;refine Ji 4 ar ?_;refine Ji 5 ar ?_;refine Ji 6 ar ?_;refine Ji 7 ar ?_;refine Ji 10 ar ?_;refine Kb 8 ?_;refine Jj fun K hK=>?_;go_simp;refine(sI.out _ (Jh (Below.refl _ _))).mono ?_;rintro r w1 ⟨rfl,ac⟩;dsimp only;have cT:Below wr.heap.size wr w1:=Jd (Jh (Below.refl _ _)) ac;refine hK _ _ ⟨HS.out _ cT,?_⟩;clear hK K
           try simp only [Act.put,sa1,sa2,sa3]
           refine Kb 9 ?_;refine Jj fun K hK=>?_;go_simp;refine(pC _).mono ?_;rintro r w2 ⟨rfl,aq⟩;dsimp only;have cF:Below wr.heap.size wr w2:=Jd cT aq;refine hK _ _ ⟨HS.out _ cF,?_⟩;clear hK K
           try simp only [Act.put,sa1,sa2,sa3]
           refine Kb 11 ?_;refine Jj fun K hK=>?_;go_simp;refine(hin7 _).mono ?_;rintro r w3 ⟨rfl,aM⟩;dsimp only;have cZ:Below wr.heap.size wr w3:=Jd cF aM;refine hK _ _ ⟨HS.out _ cZ,?_⟩;clear hK K
           try simp only [Act.put,sa1,sa2,sa3]
           refine Kb 12 ?_;refine Jj fun K hK=>?_;go_simp;refine hK _ _ ⟨HS.out _ (Jc cZ _),?_⟩;clear hK K
           try simp only [Act.put,sa1,sa2,sa3]
           have fe:=cZ.size;refine Kb 13 ?_;refine Jez (.tmp 191) (.tmp 203) 29 rfl W.heap.size 59 _ 2 16 Tryz.underlying29 Qz rfl Ua u8 lk.length (cdC lk) _ 2 2 (cdC [(2,fn),(7,(k:Int))]) rfl (Js (Jy ae.out cZ)) rfl (Qr rfl rfl) (Q2 _) Ua Ua Uj ?_;intro v5 w5 bX eT jr;have da:Below W.heap.size W w5:=J2 (Jc (Jn ab cZ ab.size) _) eT (fun b hb=>(ae.out.lt b hb).1) Uj;refine⟨HSW.out _ da,Kh Ug ?_⟩
           try simp only [Act.put,sa1,sa2,sa3]
           refine Qx 14 ?_;refine Jj fun K hK=>?_;go_simp;refine hK _ _ ?_;clear hK K
           try simp only [Act.put,sa1,sa2,sa3]
           refine Ki Ug ?_;have pH:=Lib.hid bX;clear bX eT jr ar
           go_wp2_with fail
           go_roundw
           case rel=>exact⟨k+1,Ua,Up,Lib.hid (by rw [oD.out,Jbr,List.length_append];exact pH.out),da⟩
           case measure=>simp [intOf];omega
          ·obtain rfl:k=p.outs.length:=Ua;have fh:=ae.out;rw [List.take_length] at fh yQ;generalize I4 ++ Xl (Jp L) 0 p.outs=T at *;have eU:=(gj.out.later ab).m0;have p1r:=Ja ab p1;replace g0:=Ja ab g0;replace g1:=Ja ab g1;replace g2:=Ja ab g2;replace g3:=Ja ab g3;replace g4:=Ja ab g4;replace d0:=Ja ab d0;replace d1:=Ja ab d1;replace d2:=Ja ab d2;replace f0:=(Jf ab _ _ Ua).trans f0;replace f1:=(Jf ab _ _ Ua).trans f1;replace f2:=(Jf ab _ _ Ua).trans f2;replace f3:=(Jf ab _ _ Ua).trans f3;replace f4:=(Jf ab _ _ Ua).trans f4;replace e0:=(Jf ab _ _ Ua).trans e0;replace e1:=(Jf ab _ _ Ua).trans e1;replace e2:=(Jf ab _ _ Ua).trans e2;have jh:Below w.heap.size w wr:=Jn dZ ab dZ.size;obtain⟨Az,cz,rfl,yg,yh⟩:=Jv fh;have HOZ:=Lib.hid fh;clear ae fh gj ui yF eO nA oV HND yE uu
           by_cases lR:600<T.length
           ·have t600:(600:Int)<(T.length:Int):=Ua
            go_wp2_with fail
            refine bodyPost_ret (v:= .tuple #[.slice none 0 0,.agg #[.int .i64 0,.int .i64 0,.int .i64 0,.int .i64 0,.int .i64 0],.agg #[.int .i64 4,.int .i64 0,.int .i64 3]]) G2 rfl ?_;unfold Jgs;rw [sJ.out,if_pos lR];exact⟨rfl,Qq _ _ _ (Jdj _ _ _ _ _ jh Ua) Ua⟩
           ·have t600:¬(600:Int)<(T.length:Int):=Ua
            go_wp2_with fail
            have ar:(fun w':World=>w'.cell? ⟨X,0,none⟩=some (.slice Av L.length cv)/\w'.cell? ⟨w.heap.size,1,none⟩=some (.slice A1 p.ins.length c1)/\w'.cell? ⟨w.heap.size,2,none⟩=some (.slice A2 p.outs.length c2)) wr.drew:=⟨eU,p1r,p2r⟩;refine Kd (fun w'=>w'.cell? ⟨X,0,none⟩=some (.slice Av L.length cv)/\w'.cell? ⟨w.heap.size,1,none⟩=some (.slice A1 p.ins.length c1)/\w'.cell? ⟨w.heap.size,2,none⟩=some (.slice A2 p.outs.length c2)) 18 1 Ug Gd ?_;simp only [List.size_toArray,List.length_cons,List.length_nil,Nat.zero_add,Nat.reduceAdd];refine Ji 0 ar ?_;refine Ji 1 ar ?_;refine Ji 2 ar ?_;refine Ji 3 ar ?_;refine Ji 4 ar ?_;refine Ji 5 ar ?_;refine Ji 6 ar ?_;refine Ji 7 ar ?_;refine Ji 8 ar ?_;refine Ji 9 ar ?_;refine Ji 10 ar ?_;refine Ji 11 ar ?_;refine Ji 12 ar ?_;refine Ji 13 ar ?_;refine Ji 14 ar ?_;refine Ji 15 ar ?_;refine Ji 16 ar ?_;refine Kb 17 ?_;refine Jj fun K hK=>?_;go_simp;refine hK _ _ ⟨⟨(by rw [Xi,Q8 _ _ _ _ _ Ua];exact eU),(by rw [Xi,Q8 _ _ _ _ _ Ua];exact p1r),(by rw [Xi,Q8 _ _ _ _ _ Ua];exact p2r)⟩,Kh Ug ?_⟩;clear hK K
            try simp only [Act.put,sa1,sa2,sa3]
            refine Jgr fun W1 bt=>?_;have ac:Below w.heap.size w W1:=by rw [bt];exact Jh (Jdj _ _ _ _ _ jh Ua)
            have cD:J6 (fun b=>b=w.heap.size+1\/b=w.heap.size+1+1) wr W1:=by rw [bt];exact((((((J6.refl wr).setCell (.inl rfl) _ _).setCell (.inl rfl) _ _).setCell (.inl rfl) _ _).setCell (.inl rfl) _ _).setCell (.inl rfl) _ _).trans' (J6.bel (Jh (Below.refl _ _)))
            obtain⟨r0,r1,r2,r3,r4⟩:=Jsy (W:=wr) (.int .i64 (L.length:Nat)) (.int .i64 (C.length:Nat)) (.int .i64 (C.length:Nat)) (.int .i64 (p.ins.length:Nat)) (.int .i64 (p.outs.length:Nat)) g0 g1 g2 g3 g4;have R:∀b o,W1.cell? ⟨b,o,none⟩=(((((wr.setCell ⟨w.heap.size+1,0,none⟩ (.int .i64 (L.length:Nat))).setCell ⟨w.heap.size+1,1,none⟩ (.int .i64 (C.length:Nat))).setCell ⟨w.heap.size+1,2,none⟩ (.int .i64 (C.length:Nat))).setCell ⟨w.heap.size+1,3,none⟩ (.int .i64 (p.ins.length:Nat))).setCell ⟨w.heap.size+1,4,none⟩ (.int .i64 (p.outs.length:Nat))).cell? ⟨b,o,none⟩:=fun b o=>by rw [bt,Xi]
            have RF:∀p,W1.frozen? p=wr.frozen? p:=fun p=>by
             rw [bt,Jdn];exact Ji7 (W:=wr) (b:=w.heap.size+1) _ _ _ _ _ p
            have s0:=(R _ _).trans r0;have s1:=(R _ _).trans r1;have s2:=(R _ _).trans r2;have s3:=(R _ _).trans r3;have s4:=(R _ _).trans r4;have t0:=((R _ _).trans (Q8 _ _ _ _ _ Ua)).trans d0;have t1:=((R _ _).trans (Q8 _ _ _ _ _ Ua)).trans d1;have t2:=((R _ _).trans (Q8 _ _ _ _ _ Ua)).trans d2;have z0:=(RF _).trans e0;have z1':=(RF _).trans e1;have z2':=(RF _).trans e2;clear bt R RF r0 r1 r2 r3 r4 ar g0 g1 g2 g3 g4 f0 f1 f2 f3 f4 d0 d1 d2 e0 e1 e2 eU p1 p2 p1r p2r;refine Qx 18 ?_;refine Jj fun K hK=>?_;go_simp;refine hK _ _ ?_;clear hK K
            try simp only [Act.put,sa1,sa2,sa3]
            refine Ki Ug ?_;refine Zc fun W2 gi=>?_;obtain⟨r0,r1,r2⟩:=Jp5 (W:=W1) (.int .i64 0) (.int .i64 0) (.int .i64 0) t0 t1 t2;have R:∀b o,W2.cell? ⟨b,o,none⟩=(((W1.setCell ⟨w.heap.size+1+1,0,none⟩ (.int .i64 0)).setCell ⟨w.heap.size+1+1,1,none⟩ (.int .i64 0)).setCell ⟨w.heap.size+1+1,2,none⟩ (.int .i64 0)).cell? ⟨b,o,none⟩:=fun b o=>by rw [gi]
            have aq:Below w.heap.size w W2:=Udu;have dz:J6 (fun b=>b=w.heap.size+1\/b=w.heap.size+1+1) wr W2:=Fc;have ao:=K8 (dz.own (fun b hb h=>by have:=(HOZ.out.lt b hb).1;omega) HOZ.out) (show w.heap.size<=W.heap.size by omega);have x0:=(R _ _).trans r0;have x1:=(R _ _).trans r1;have x2:=(R _ _).trans r2;have y0:=((R _ _).trans (Qy _ _ _ Ua)).trans s0;have y1:=((R _ _).trans (Qy _ _ _ Ua)).trans s1;have y2:=((R _ _).trans (Qy _ _ _ Ua)).trans s2;have y3:=((R _ _).trans (Qy _ _ _ Ua)).trans s3;have y4:=((R _ _).trans (Qy _ _ _ Ua)).trans s4;clear gi R r0 r1 r2 s0 s1 s2 s3 s4 t0 t1 t2 z0 z1' z2' cD dz
            go_wp2_with fail
            refine bodyPost_ret (v:= .tuple #[.slice Az T.length cz,.agg #[.int .i64 (L.length:Nat),.int .i64 (C.length:Nat),.int .i64 (C.length:Nat),.int .i64 (p.ins.length:Nat),.int .i64 (p.outs.length:Nat)],.agg #[.int .i64 0,.int .i64 0,.int .i64 0]]) G2 rfl ?_;unfold Jgs;rw [sJ.out,if_neg lR];exact⟨⟨_,by rw [qR,hCC];rfl,ao⟩,aq⟩
end Go.Proofs.YtknfcamdfdfoeaaGreatDoor
