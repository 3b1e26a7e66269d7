/- Lemmas. -/
import Derived.Test.YtknfcamdfdfoeaaGreatDoorMac
import Derived.Test.YtknfcamdfdfoeaaGreatDoorZ38
import Derived.Test.YtknfcamdfdfoeaaGreatDoorZ39
import Derived.Test.YtknfcamdfdfoeaaGreatDoorZ17
import Derived.Test.YtknfcamdfdfoeaaGreatDoorZ32
import Derived.Test.YtknfcamdfdfoeaaGreatDoorZ28
set_option linter.unusedVariables false
set_option linter.unusedSimpArgs false
set_option maxRecDepth 100000
set_option maxHeartbeats 64000000
namespace Go.Proofs.YtknfcamdfdfoeaaGreatDoor
open Go.RowKit Go.Sort
section
variable (sl:ByteArray->Int) (fl:Int×ByteArray->Int)
theorem Jk9 (c:Ce):∀(l:List Ce) (i:Nat),Xx sl i (l ++ [c])=Xx sl i l ++ (if c.name.toList.isEmpty=true then [] else [(4,((i+l.length:Nat):Int)),(3,sl c.name)])
 | [],i=>by simp [Xx]
 | x :: l,i=>by
  rw [List.cons_append,Xx,Jk9 c l (i+1),Xx,List.append_assoc,Nl,show i+1+l.length=i+(l.length+1) by omega]
theorem Jnp:∀(l:List Ce) (i:Nat),(Xx sl i l).length<=2 * l.length
 | [],i=>by simp [Xx]
 | x :: l,i=>by
  have:=Jnp l (i+1);rw [Xx,Nk,Nl]
  split <;> simp <;> omega
theorem Jkr (eqs:List Qe) (c:Ce):∀(l:List Ce) (i:Nat),Xw sl fl eqs i (l ++ [c])=Xw sl fl eqs i l ++ Qk sl (c.ck,c.cn) (Zm sl fl c [(1,1)] eqs ++ [(5,((i+l.length:Nat):Int))])
 | [],i=>by simp [Xw]
 | x :: l,i=>by
  rw [List.cons_append,Xw,Jkr eqs c l (i+1),Xw,List.append_assoc,Nl,show i+1+l.length=i+(l.length+1) by omega]
theorem Jio (c:Ce):∀(eqs:List Qe) (x:List (Int×Int)),(∀q∈eqs,∀c,(q.e.gen sl fl c).length<=360)->x.length<=360->(Zm sl fl c x eqs).length<=360
 | [],x,_,h=>h
 | q :: r,x,hq,h=>by
  unfold Zm;rw [List.foldl_cons];refine Jio c r _ (fun y hy=>hq y F0) ?_
  split
  ·exact hq q Ul _
  ·exact h
theorem Jso (c:Ce) (eqs:List Qe) (q:Qe) (x:List (Int×Int)):Zm sl fl c x (eqs ++ [q])=if c.name.toList.isEmpty=false/\(q.name.toList == c.name.toList)=true then q.e.gen sl fl (c.ck,c.cn) else Zm sl fl c x eqs:=by
 unfold Zm;rw [List.foldl_append];exact Gd
theorem Jm5 (eqs:List Qe) (h:∀q∈eqs,∀c,(q.e.gen sl fl c).length<=360):∀(l:List Ce) (i:Nat),(Xw sl fl eqs i l).length<=370 * l.length
 | [],i=>by simp [Xw]
 | c :: l,i=>by
  have h1:=Jm5 eqs h l (i+1);have h2:=Jb0 sl (c.ck,c.cn) (Zm sl fl c [(1,1)] eqs ++ [(5,(i:Int))]);have h3:=Jio sl fl c eqs [(1,1)] h Ul;rw [Xw,Nk,Nl];simp only [Nk,Nl,Nm] at h2;exact Ua
end
theorem Jss {L:List Va} (hn:(L.map (·.name)).Nodup) {k:Nat} {v:Va} (h:L[k]?=some v):Jp L v.name=(k:Int):=by
 have h1:=Jid hn h
 rcases Y5 L v.name with ⟨h2,h3⟩|⟨j,u,h2,h3,h4⟩
 ·have:=(Jek h).1;omega
 ·have h5:=(Jek h).2.1;rw [h2]
  rcases Nat.lt_or_ge j k with hj|hj
  ·have h6:u∈L.take k:=Ni (i:=j) (by rw [List.getElem?_take,if_pos hj];exact h3);have h7:=h1 u h6
   have h8:u.name=v.name:=by
    have:=Jem h4;rw [<-Zf,beq_iff_eq];exact this.2
   exact absurd h8 h7
  ·exact Ua
theorem Jw2 (p:Pr) (a:PrA) (w:World) (hp:Kr w p a) (aw:Q4 p) (n1:p.ins.length<=1000000) (n2:p.outs.length<=1000000) (n3:p.locals.length<=1000000) (n4:p.eqs.length<=1000000) (hf:(Kf p).2≠(0,0,0)) :
  Calls Tryz.prog 9 #[prV p a] w fun r w'=>r = .returned (.tuple #[.slice none 0 0,Jme,fV (Kf p).2])/\Below w.heap.size w w':=by
 have ah:=fun W h=>Jkw p a W (hp.later h) aw n1 n2 n3 n4;unfold Je7 at ah
 have aS:(Kf p).2.2.2≠0:=by
  unfold Kf at hf ⊢
  split
  ·rename_i h1;rw [if_pos h1] at hf
   split
   ·show(3:Int)≠0;decide
   ·rename_i h2;rw [if_neg h2] at hf;exact absurd rfl hf
  ·rename_i h1;exact Jkq h1
 obtain⟨A1,c1,A2,c2,A3,c3,A4,c4⟩:=a;generalize (Kf p).1=cl at *;generalize (Kf p).2=cf at *;obtain⟨k1,k2,k3⟩:=cf;unfold Jme;unfold prV fV at *;dsimp only at *;have t1:(k3 != 0)=true:=Se;clear hp aw hf aS
 go_enter Tryz.func9,Tryz.ntmps9
 go_wp2_with (first|(go_at_call 25;refine(ah _ Jb).mono ?_;rintro r wa ⟨⟨v,rfl,ae⟩,aA⟩;obtain⟨Ac,cc,rfl,oS,nx⟩:=Jv ae;have aW:=Jg aA;have bS:=Jf aA;have cN:w.heap.size+3<=wa.heap.size:=Ut;have dG:=lt0 w wa;have aX:=ltA w 1 wa;have eJ:w.heap.size+1+1<wa.heap.size:=Ua;clear ae))
 refine Jo fun W0 ag=>?_;have ax:=Nd w W0 Uo;have aQ:=Nd wa W0 Uo;have g0:=Na W0 (w.heap.size+1) 0 0 (Ja aQ Udi);have f0:=Nc W0 (w.heap.size+1) 0 ((Jf aQ _ _ aX).trans ((bS _ _ Ul).trans Uq));have g1:=Na W0 (w.heap.size+1) 1 0 (Ja aQ Udi);have f1:=Nc W0 (w.heap.size+1) 1 ((Jf aQ _ _ aX).trans ((bS _ _ Ul).trans Uq));have g2:=Na W0 (w.heap.size+1) 2 0 (Ja aQ Udi);have f2:=Nc W0 (w.heap.size+1) 2 ((Jf aQ _ _ aX).trans ((bS _ _ Ul).trans Uq));have g3:=Na W0 (w.heap.size+1) 3 0 (Ja aQ Udi);have f3:=Nc W0 (w.heap.size+1) 3 ((Jf aQ _ _ aX).trans ((bS _ _ Ul).trans Uq));have g4:=Na W0 (w.heap.size+1) 4 0 (Ja aQ Udi);have f4:=Nc W0 (w.heap.size+1) 4 ((Jf aQ _ _ aX).trans ((bS _ _ Ul).trans Uq));have d0:=Na W0 (w.heap.size+1+1) 0 0 (Ja aQ Udi);have e0:=Nc W0 (w.heap.size+1+1) 0 ((Jf aQ _ _ eJ).trans ((bS _ _ Ul).trans Uq));have q0:=Na W0 wa.heap.size 0 k1 Uc;have d1:=Na W0 (w.heap.size+1+1) 1 0 (Ja aQ Udi);have e1:=Nc W0 (w.heap.size+1+1) 1 ((Jf aQ _ _ eJ).trans ((bS _ _ Ul).trans Uq));have q1:=Na W0 wa.heap.size 1 k2 Uc;have d2:=Na W0 (w.heap.size+1+1) 2 0 (Ja aQ Udi);have e2:=Nc W0 (w.heap.size+1+1) 2 ((Jf aQ _ _ eJ).trans ((bS _ _ Ul).trans Uq));have q2:=Na W0 wa.heap.size 2 k3 Uc;clear ag aW bS aA aQ ah
 have bW:∀(w':World) (b o:Nat) (u:Value),b≠wa.heap.size->w'.cell? ⟨wa.heap.size,0,none⟩=some (.int .i64 k1)/\w'.cell? ⟨wa.heap.size,1,none⟩=some (.int .i64 k2)/\w'.cell? ⟨wa.heap.size,2,none⟩=some (.int .i64 k3)->(w'.setCell ⟨b,o,none⟩ u).cell? ⟨wa.heap.size,0,none⟩=some (.int .i64 k1)/\(w'.setCell ⟨b,o,none⟩ u).cell? ⟨wa.heap.size,1,none⟩=some (.int .i64 k2)/\(w'.setCell ⟨b,o,none⟩ u).cell? ⟨wa.heap.size,2,none⟩=some (.int .i64 k3):=fun w' b o u hb ⟨h1,h2,h3⟩=>
  ⟨(World.cell?_setCell_other _ _ _ _ Lf).trans h1,(World.cell?_setCell_other _ _ _ _ Lf).trans h2,(World.cell?_setCell_other _ _ _ _ Lf).trans h3⟩
 have gQ:=Nf bW;have oT:∀w':World,w'.cell? ⟨wa.heap.size,0,none⟩=some (.int .i64 k1)/\w'.cell? ⟨wa.heap.size,1,none⟩=some (.int .i64 k2)/\w'.cell? ⟨wa.heap.size,2,none⟩=some (.int .i64 k3)->w'.drew.cell? ⟨wa.heap.size,0,none⟩=some (.int .i64 k1)/\w'.drew.cell? ⟨wa.heap.size,1,none⟩=some (.int .i64 k2)/\w'.drew.cell? ⟨wa.heap.size,2,none⟩=some (.int .i64 k3):=fun _ h=>h;have HD:=Nf oT;clear bW oT;have ar:W0.drew.cell? ⟨wa.heap.size,0,none⟩=some (.int .i64 k1)/\W0.drew.cell? ⟨wa.heap.size,1,none⟩=some (.int .i64 k2)/\W0.drew.cell? ⟨wa.heap.size,2,none⟩=some (.int .i64 k3):=⟨q0,q1,q2⟩;refine Kd (fun w'=>w'.cell? ⟨wa.heap.size,0,none⟩=some (.int .i64 k1)/\w'.cell? ⟨wa.heap.size,1,none⟩=some (.int .i64 k2)/\w'.cell? ⟨wa.heap.size,2,none⟩=some (.int .i64 k3)) 4 1 Ug Gd ?_;simp only [List.size_toArray,Nl,Nm,Nat.zero_add,Nat.reduceAdd];refine Ji 0 ar ?_;refine Ji 1 ar ?_;refine Ji 2 ar ?_;refine Kb 3 ?_;refine Jj fun K hK=>?_;go_simp;have oy:=HD.out _ (gQ.out _ (w.heap.size+1) 4 (.int .i64 0) Ua (gQ.out _ (w.heap.size+1) 3 (.int .i64 0) Ua (gQ.out _ (w.heap.size+1) 2 (.int .i64 0) Ua (gQ.out _ (w.heap.size+1) 1 (.int .i64 0) Ua (gQ.out W0 (w.heap.size+1) 0 (.int .i64 0) Ua ⟨q0,q1,q2⟩)))));refine hK _ _ ⟨oy,Kh Ug ?_⟩;clear hK K
 try simp only [Act.put,sa1,sa2,sa3]
 refine Jgr fun W1 bt=>?_;have ac:=Nd w W1 (by rw [bt];exact Jh (Jdj _ _ _ _ _ ax Ua))
 obtain⟨r0,r1,r2,r3,r4⟩:=Jsy (W:=W0) (.int .i64 0) (.int .i64 0) (.int .i64 0) (.int .i64 0) (.int .i64 0) g0 g1 g2 g3 g4;have R:∀b o,W1.cell? ⟨b,o,none⟩=(((((W0.setCell ⟨w.heap.size+1,0,none⟩ (.int .i64 0)).setCell ⟨w.heap.size+1,1,none⟩ (.int .i64 0)).setCell ⟨w.heap.size+1,2,none⟩ (.int .i64 0)).setCell ⟨w.heap.size+1,3,none⟩ (.int .i64 0)).setCell ⟨w.heap.size+1,4,none⟩ (.int .i64 0)).cell? ⟨b,o,none⟩:=fun b o=>by rw [bt,Xi]
 have RF:∀p,W1.frozen? p=W0.frozen? p:=fun p=>by
  rw [bt,Jdn];exact Ji7 (W:=W0) (b:=w.heap.size+1) _ _ _ _ _ p
 have s0:=(R _ _).trans r0;have s1:=(R _ _).trans r1;have s2:=(R _ _).trans r2;have s3:=(R _ _).trans r3;have s4:=(R _ _).trans r4;have t0:=((R _ _).trans (Q8 _ _ _ _ _ Ua)).trans d0;have t1:=((R _ _).trans (Q8 _ _ _ _ _ Ua)).trans d1;have t2:=((R _ _).trans (Q8 _ _ _ _ _ Ua)).trans d2;have z0:=(RF _).trans e0;have z1:=(RF _).trans e1;have z2:=(RF _).trans e2;clear bt R RF r0 r1 r2 r3 r4 oy ar q0 q1 q2 g0 g1 g2 g3 g4 f0 f1 f2 f3 f4 d0 d1 d2 e0 e1 e2 gQ HD;refine Qx 4 ?_;refine Jj fun K hK=>?_;go_simp;refine hK _ _ ?_;clear hK K
 try simp only [Act.put,sa1,sa2,sa3]
 refine Ki Ug ?_;refine Zc fun W2 gi=>?_;obtain⟨r0,r1,r2⟩:=Jp5 (W:=W1) (.int .i64 k1) (.int .i64 k2) (.int .i64 k3) t0 t1 t2;have R:∀b o,W2.cell? ⟨b,o,none⟩=(((W1.setCell ⟨w.heap.size+1+1,0,none⟩ (.int .i64 k1)).setCell ⟨w.heap.size+1+1,1,none⟩ (.int .i64 k2)).setCell ⟨w.heap.size+1+1,2,none⟩ (.int .i64 k3)).cell? ⟨b,o,none⟩:=fun b o=>by rw [gi]
 have aq:=Nd w W2 Udu;have x0:=(R _ _).trans r0;have x1:=(R _ _).trans r1;have x2:=(R _ _).trans r2;have y0:=((R _ _).trans (Qy _ _ _ Ua)).trans s0;have y1:=((R _ _).trans (Qy _ _ _ Ua)).trans s1;have y2:=((R _ _).trans (Qy _ _ _ Ua)).trans s2;have y3:=((R _ _).trans (Qy _ _ _ Ua)).trans s3;have y4:=((R _ _).trans (Qy _ _ _ Ua)).trans s4;clear gi R r0 r1 r2 s0 s1 s2 s3 s4 t0 t1 t2 z0 z1 z2
 go_wp2_with fail
 exact Nv (v:= .tuple #[.slice none 0 0,.agg #[.int .i64 0,.int .i64 0,.int .i64 0,.int .i64 0,.int .i64 0],.agg #[.int .i64 k1,.int .i64 k2,.int .i64 k3]]) G2 rfl ⟨rfl,aq⟩
structure Jn8 (W:World) (w:World) (X:Nat) (p:Pr) (L:List Va) (C:List Ce) (Av:Option Addr) (cv:Nat) (Ac:Option Addr) (cc:Nat) (A1 A2 A4:Option Addr) (c1 c2 c4:Nat):Prop where
 m0:W.cell? ⟨X,0,none⟩=some (.slice Av L.length cv)
 m1:W.cell? ⟨X,1,none⟩=some (.slice Ac C.length cc)
 p1:W.cell? ⟨w.heap.size,1,none⟩=some (.slice A1 p.ins.length c1)
 p2:W.cell? ⟨w.heap.size,2,none⟩=some (.slice A2 p.outs.length c2)
 p4:W.cell? ⟨w.heap.size,4,none⟩=some (.slice A4 p.eqs.length c4)
 va:Ju W L Av cv
 ce:Jbh W C Ac cc
 ins:Ju W p.ins A1 c1
 outs:Ju W p.outs A2 c2
 eqs:Jap W p.eqs A4 c4
 lt:w.heap.size<W.heap.size
theorem Jn8.later {W W' w:World} {X:Nat} {p:Pr} {L:List Va} {C:List Ce} {Av:Option Addr} {cv:Nat} {Ac:Option Addr} {cc:Nat} {A1 A2 A4:Option Addr} {c1 c2 c4:Nat} (h:Jn8 W w X p L C Av cv Ac cc A1 A2 A4 c1 c2 c4) (hb:Below W.heap.size W W'):Jn8 W' w X p L C Av cv Ac cc A1 A2 A4 c1 c2 c4:=
 ⟨Ja hb h.m0,Ja hb h.m1,Ja hb h.p1,Ja hb h.p2,Ja hb h.p4,h.va.later hb,h.ce.later hb,h.ins.later hb,h.outs.later hb,h.eqs.later hb,Nr h.lt hb.size⟩
theorem Jup (p:Pr) (a:PrA) (w:World) (hp:Kr w p a) (aw:Q4 p) (n1:p.ins.length<=1000000) (n2:p.outs.length<=1000000) (n3:p.locals.length<=1000000) (n4:p.eqs.length<=1000000) (hS:Ks p=(0,0,0)) (dP:¬16<(Jq p).length) :
  Calls Tryz.prog 9 #[prV p a] w (Jgs p w):=by
 have bO:=Jff hS;have ah:=fun W h=>Jkw p a W (hp.later h) aw n1 n2 n3 n4;have eL:=fun W h=>Jg8 p a W (hp.later h) aw n1 n2 n3 n4;have aJ:=fun W h=>Z3 p a W (hp.later h) n1 n2 n3;have dY:=Yg bO.order;rw [bO.order] at eL;unfold Je7 at ah;rw [show Kf p=(Jq p,(0,0,0)) by unfold Kf;rw [if_pos hS,if_neg dP]] at ah;have yz:=Jw6 bO;have ai:=bO.codes;have oU:=Nf hp.ins;have kJ:=Nf hp.outs;have qO:=Nf hp.eqs;have yA:=Nf aw.eqs;have bI:=hp.ins.len;have aD:=hp.outs.len;have cG:=hp.eqs.len;unfold maxLen at bI aD cG;have cC:=Nf bO;have lN:=Nf dY;have pE:=Nf eL;have yB:=Nf yz;have eO:=Nf ai;have jN:=bO.small;obtain⟨bC,bd,hs3,hs4⟩:=jN;obtain⟨A1,c1,A2,c2,A3,c3,A4,c4⟩:=a;unfold prV fV at *;dsimp only at *;obtain⟨tO,tP⟩:=bI;obtain⟨tQ,tR⟩:=aD;obtain⟨fT,fU⟩:=cG;clear hS hp aw bO dY eL yz ai
 go_enter Tryz.func9,Tryz.ntmps9
 go_wp2_with (first
  | (go_at_call 25;refine(ah _ Jb).mono ?_;rintro r wa ⟨⟨v,rfl,ae⟩,aA⟩;obtain⟨Ac,cc,rfl,lO⟩:=Jbh.of_own ae;clear ae;have aW:=Jg aA;have bS:=Jf aA;have cN:w.heap.size+3<=wa.heap.size:=Ut;have dG:=lt0 w wa;have aX:=ltA w 1 wa;have eJ:w.heap.size+1+1<wa.heap.size:=Ua;have nC:=Nf lO;clear lO)
  | (go_at_call 26;go_loud (refine(aJ _ Jb).mono ?_;rintro r wl ⟨⟨Av,cv,rfl,ay⟩,ij⟩;have bO:=Jg ij;have gM:=Jf ij;have su:wa.heap.size+1<=wl.heap.size:=(by have:=ij.size;simpa using this);have cR:=Ju.of_own ay;have yC:=Nf cR;clear ay cR)))
 refine Jo fun W hW=>?_;have dZ:=Nd w W Dw;have bA:=Nd wa W Dw;have kK:=Nd wl W Dw;have g0:=Na W (w.heap.size+1) 0 0 (Ja bA Udi);have f0:=Nc W (w.heap.size+1) 0 ((Jf bA _ _ aX).trans ((bS _ _ Ul).trans Uq));have g1:=Na W (w.heap.size+1) 1 0 (Ja bA Udi);have f1:=Nc W (w.heap.size+1) 1 ((Jf bA _ _ aX).trans ((bS _ _ Ul).trans Uq));have g2:=Na W (w.heap.size+1) 2 0 (Ja bA Udi);have f2:=Nc W (w.heap.size+1) 2 ((Jf bA _ _ aX).trans ((bS _ _ Ul).trans Uq));have g3:=Na W (w.heap.size+1) 3 0 (Ja bA Udi);have f3:=Nc W (w.heap.size+1) 3 ((Jf bA _ _ aX).trans ((bS _ _ Ul).trans Uq));have g4:=Na W (w.heap.size+1) 4 0 (Ja bA Udi);have f4:=Nc W (w.heap.size+1) 4 ((Jf bA _ _ aX).trans ((bS _ _ Ul).trans Uq));have d0:=Na W (w.heap.size+1+1) 0 0 (Ja bA Udi);have e0:=Nc W (w.heap.size+1+1) 0 ((Jf bA _ _ eJ).trans ((bS _ _ Ul).trans Uq));have d1:=Na W (w.heap.size+1+1) 1 0 (Ja bA Udi);have e1:=Nc W (w.heap.size+1+1) 1 ((Jf bA _ _ eJ).trans ((bS _ _ Ul).trans Uq));have d2:=Na W (w.heap.size+1+1) 2 0 (Ja bA Udi);have e2:=Nc W (w.heap.size+1+1) 2 ((Jf bA _ _ eJ).trans ((bS _ _ Ul).trans Uq));have p0:=Nb W w.heap.size 0 (.string p.name) (Ja bA Udn);have p1:=Nb W w.heap.size 1 (.slice A1 p.ins.length c1) (Ja bA Udn);have p2:=Nb W w.heap.size 2 (.slice A2 p.outs.length c2) (Ja bA Udn);have p3:=Nb W w.heap.size 3 (.slice A3 p.locals.length c3) (Ja bA Udn);have p4:=Nb W w.heap.size 4 (.slice A4 p.eqs.length c4) (Ja bA Udn);have m0:=Nb W wl.heap.size 0 (.slice Av (Je p).length cv) (by rw [hW];go_simp)
 have m1:=Nb W wl.heap.size 1 (.slice Ac (Jq p).length cc) (by rw [hW];go_simp)
 have gj:=Nf (Jn8.mk (W:=W) (w:=w) (X:=wl.heap.size) (p:=p) m0 m1 p1 p2 p4 (yC.out.later kK) (nC.out.later bA) (oU.out.later dZ) (kJ.out.later dZ) (qO.out.later dZ) (by have:=bA.size;omega));have hzW:w.heap.size+3<=W.heap.size:=by have:=bA.size;omega
 have sH:=lt0 w W;have nq:=cC.out.nodup;have ny:=cC.out.vars;have nz:∀c∈Jq p,c.ck=0\/c.ck=1\/c.ck=2:=fun c hc=>(cC.out.cells hc).1;have ry:=fun(q:Qe) (hq:q∈p.eqs)=>cC.out.find hq;have cM:=cC.out.eqs;have hL6:(Je p).length<=1000000:=Ua;have nF:(Jq p).length<=1000000:=Ua;have pF:=fun(q:Qe) (hq:q∈p.eqs)=>Js1 (Je p) (Jq p) Av cv Ac cc hL6 nF q.e (cM q hq).formed (yA.out q hq).2.2.2 (by have:=(cM q hq).size;omega)
 have yD:∀(k:Nat) (x:Va),p.ins[k]?=some x->Jp (Je p) x.name=(k:Int):=fun k x hx=>Jss nq (by
  unfold Je;have:=(Nh hx).1;rw [List.getElem?_append_left Li,List.getElem?_append_left Ua];exact hx)
 have yE:=Nf yD;have HND:=Nf nq;have nA:=Nf ny;have oV:=Nf nz;have yF:=Nf ry;have ui:=Nf pF;have sJ:Hid (Xs p=Yh (Jp (Je p)) 0 p.ins ++ Xx (Jp (Je p)) 0 (Jq p) ++ Xd (Jp (Je p)) (Kg (Jq p)) (Je p) p.eqs (J1 p).1 ++ Xw (Jp (Je p)) (Kg (Jq p)) p.eqs 0 (Jq p) ++ Xl (Jp (Je p)) 0 p.outs):=Nf (by rw [<-yB.out];rfl);have HP0:=Nf p0;have HP3:=Nf p3;have hXge:w.heap.size+3<=wl.heap.size:=Ua;generalize wl.heap.size=X at *;clear hW aW bS bO gM cN dG aX eJ su aA ij bA kK nq ny nz ry cM pF yD nC yC oU kJ qO yA cC yB ah aJ m0 m1;clear p0 p3;generalize qR:Je p=L at *;generalize hCC:Jq p=C at *;have uf:=fun s=>Jd3 hL6 s
 go_loopw [8,9] (fun V i wr=>∃(k:Nat),k<=p.ins.length/\i = .int .i64 k/\Hid (wr.ownsRow W.heap.size 59 2 V (Yh (Jp L) 0 (p.ins.take k)).length (cdC (Yh (Jp L) 0 (p.ins.take k))))/\Below W.heap.size W wr) (fun _ i _=>p.ins.length-(intOf i).toNat)
 case atStart=>exact⟨0,Np,rfl,Nf (Nw),Nt⟩
 case round=>
  obtain⟨k,hk,rfl,ae,ab⟩:=hrel;have bu:=ab.size;have lu:=lt0 w wr;have hpp:=Ja ab p1;have kC:=Je4 (Jp L) (p.ins.take k) 0;rw [List.length_take] at kC
  by_cases am:k<p.ins.length
  ·have hx:p.ins[k]?=some p.ins[k]:=Ng am;have aP:p.ins.take (k+1)=p.ins.take k ++ [p.ins[k]]:=U6;generalize p.ins[k]=x at hx aP
   have fE:Yh (Jp L) 0 (p.ins.take (k+1))=Yh (Jp L) 0 (p.ins.take k) ++ [(6,(k:Int)),(3,(k:Int))]:=by
    rw [aP,Jis,yE.out k x hx,List.length_take,show 0+min k p.ins.length=k by omega]
   have oD:=Nf fE;have kQ:I32 (k:Int):=Vh;clear hx aP fE;generalize Yh (Jp L) 0 (p.ins.take k)=lk at *
   go_wp2_with (first
    | (go_at_call_of 27 (Value.int IntKind.i64 6);go_loud (refine(Xo _ _ kQ _).mono ?_;rintro r wx ⟨rfl,fk⟩))
    | (go_at_call_of 27 (Value.int IntKind.i64 3);go_loud (refine(Xo _ _ kQ _).mono ?_;rintro r wy ⟨rfl,gl⟩;have uj:=Nd W wy (Jn ab (Jd fk gl) ab.size)))
    | (at_builtin;go_loud (refine K6 rfl (.tmp 42) (.tmp 47) 29 rfl W.heap.size 59 _ 2 16 Tryz.underlying29 Qz rfl Ua u8 lk.length (cdC lk) _ 2 2 (cdC [(6,(k:Int)),(3,(k:Int))]) rfl (Js (Jy (Jy ae.out fk) gl)) rfl (Qr rfl rfl) (Q2 _) Ua Ua (by have:=uj.size;simp;omega) ?_;intro v2 w2 ao aq;have sK:=Nf ao;clear ao)))
   go_roundw
   case rel=>exact⟨k+1,Ua,Up,Nf (by rw [oD.out,Jbr,Nk];exact sK.out),(Jc uj _).trans aq⟩
   case measure=>simp [intOf];omega
  ·obtain rfl:k=p.ins.length:=Ua;have dr:=ae.out;rw [List.take_length] at dr kC;generalize Yh (Jp L) 0 p.ins=I1 at *;have qT:=Nf dr;clear ae dr
   go_wp2_with fail
   clear hpp
   go_loopw [8,10] (fun V i wr=>∃(k:Nat),k<=C.length/\i = .int .i64 k/\Hid (wr.ownsRow W.heap.size 59 2 V (I1 ++ Xx (Jp L) 0 (C.take k)).length (cdC (I1 ++ Xx (Jp L) 0 (C.take k))))/\Below W.heap.size W wr) (fun _ i _=>C.length-(intOf i).toNat)
   case atStart=>exact⟨0,Np,rfl,Nf (by rw [List.take_zero,Xx,List.append_nil];exact qT.out),ab⟩
   case round=>
    clear qT ab lu bu;obtain⟨k,dz,rfl,ae,ab⟩:=hrel;have bu:=ab.size;have lu:=lt0 w wr;have yG:=Jnp (Jp L) (C.take k) 0;rw [List.length_take] at yG;have hllk:(I1 ++ Xx (Jp L) 0 (C.take k)).length<=100:=Li
    by_cases dO:k<C.length
    ·have hx:C[k]?=some C[k]:=Ng dO;have aP:C.take (k+1)=C.take k ++ [C[k]]:=Gg;generalize C[k]=x at hx aP;obtain⟨b,off,rfl,cB⟩:=gj.out.ce.2.2.2 Ua;have d0:=cB _ _ (Jdh C k x hx).1
     have fE:I1 ++ Xx (Jp L) 0 (C.take (k+1))=(I1 ++ Xx (Jp L) 0 (C.take k)) ++ (if x.name.toList.isEmpty=true then [] else [(4,(k:Int)),(3,Jp L x.name)]):=by
      rw [aP,Jk9,List.length_take,show 0+min k C.length=k by omega,List.append_assoc]
     have hS:∀w',Below W.heap.size W w'->w'.cell? ⟨X,0,none⟩=some (.slice Av L.length cv)/\w'.cell? ⟨X,1,none⟩=some (.slice (some ⟨b,off,none⟩) C.length cc)/\w'.cell? ⟨b,off+k * 4,none⟩=some (.string x.name):=fun w' hb=>
      ⟨Ja hb gj.out.m0,Ja hb gj.out.m1,Ja hb d0⟩
     have HSW:=Nf hS;have HS:=Nf (fun w' (hb:Below wr.heap.size wr w')=>hS w' (Jn ab hb ab.size));have ar:=hS wr.drew (Jh ab);have d0':=Ja ab d0;have dF:=fun W' (hb:Below wr.heap.size wr W')=>Jdt L Av cv (.slice (some ⟨b,off,none⟩) C.length cc) x.name W' (gj.out.va.later (Jn ab hb ab.size));have kQ:I32 (k:Int):=Vh;have uh:=fun W'=>Xo 4 (k:Int) kQ W';have rz:=fun W'=>Xo 3 (Jp L x.name) (uf x.name) W';have sI:=Nf dF;have oD:=Nf fE;have aH:=Nu d0';clear hx aP cB d0 fE hS dF;generalize I1 ++ Xx (Jp L) 0 (C.take k)=lk at *;generalize Jp L x.name=fn at *
     cases aS:x.name.toList.isEmpty
     ·rw [aS] at oD;clear ar
      go_wp2_with fail
      have ar:=HS.out wr.drew (Jh (Nt));refine Kd (fun w'=>w'.cell? ⟨X,0,none⟩=some (.slice Av L.length cv)/\w'.cell? ⟨X,1,none⟩=some (.slice (some ⟨b,off,none⟩) C.length cc)/\w'.cell? ⟨b,off+k * 4,none⟩=some (.string x.name)) 13 1 Ug Gd ?_;simp only [List.size_toArray,Nl,Nm,Nat.zero_add,Nat.reduceAdd];refine Ji 0 ar ?_;refine Ji 1 ar ?_;refine Ji 3 ar ?_;refine Ji 4 ar ?_;refine Ji 5 ar ?_;refine Ji 6 ar ?_;refine Ji 7 ar ?_;refine Ji 8 ar ?_;refine Kb 2 ?_;refine Jj fun K hK=>?_;go_simp;refine(uh _).mono ?_;rintro r w1 ⟨rfl,ac⟩;dsimp only;have cT:=Nd wr w1 (Jd (Jh (Nt)) ac);refine hK _ _ ⟨HS.out _ cT,?_⟩;clear hK K
      try simp only [Act.put,sa1,sa2,sa3]
      refine Kb 9 ?_;refine Jj fun K hK=>?_;go_simp;refine(sI.out _ cT).mono ?_;rintro r w2 ⟨rfl,aq⟩;dsimp only;have cF:=Nd wr w2 (Jd cT aq);refine hK _ _ ⟨HS.out _ cF,?_⟩;clear hK K
      try simp only [Act.put,sa1,sa2,sa3]
      refine Kb 10 ?_;refine Jj fun K hK=>?_;go_simp;refine(rz _).mono ?_;rintro r w3 ⟨rfl,aM⟩;dsimp only;have cZ:=Nd wr w3 (Jd cF aM);refine hK _ _ ⟨HS.out _ cZ,?_⟩;clear hK K
      try simp only [Act.put,sa1,sa2,sa3]
      refine Kb 11 ?_;refine Jj fun K hK=>?_;go_simp;refine hK _ _ ⟨HS.out _ (Jc cZ _),?_⟩;clear hK K
      try simp only [Act.put,sa1,sa2,sa3]
      have fe:=cZ.size;refine Kb 12 ?_;refine Jez (.tmp 61) (.tmp 72) 29 rfl W.heap.size 59 _ 2 16 Tryz.underlying29 Qz rfl Ua u8 lk.length (cdC lk) _ 2 2 (cdC [(4,(k:Int)),(3,fn)]) rfl (Js (Jy ae.out cZ)) rfl (Qr rfl rfl) (Q2 _) Ua Ua Uj ?_;intro v5 w5 bX eT jr;have da:=Nd W w5 (J2 (Jc (Jn ab cZ ab.size) _) eT (fun b hb=>(ae.out.lt b hb).1) Uj);refine⟨HSW.out _ da,Kh Ug ?_⟩
      try simp only [Act.put,sa1,sa2,sa3]
      refine Qx 13 ?_;refine Jj fun K hK=>?_;go_simp;refine hK _ _ ?_;clear hK K
      try simp only [Act.put,sa1,sa2,sa3]
      refine Ki Ug ?_;have pH:=Nf bX;clear bX eT jr ar
      go_wp2_with fail
      go_roundw
      case rel=>exact⟨k+1,Ua,Up,Nf (by rw [oD.out,if_neg Ul,Jbr,Nk];exact pH.out),da⟩
      case measure=>simp [intOf];omega
     ·rw [aS] at oD;clear ar
      go_wp2_with fail
      go_roundw
      case rel=>exact⟨k+1,Ua,Up,Nf (by rw [oD.out,if_pos rfl,List.append_nil];exact ae.out),ab⟩
      case measure=>simp [intOf];omega
    ·obtain rfl:k=C.length:=Ua;obtain⟨Wb,rfl⟩:∃Wb,Wb=wr:=⟨wr,rfl⟩;have dr:=ae.out;rw [List.take_length] at dr hllk;generalize I1 ++ Xx (Jp L) 0 C=I2 at *;have mU:=Nf dr;have q0:=Ja ab HP0.out;have q1:=Ja ab p1;have q2:=Ja ab p2;have q3:=Ja ab HP3.out;have q4:=Ja ab p4;have hbwb:=Nd w Wb (Jn dZ ab dZ.size);have hVB:∀b,u8.ownBlock=some b->W.heap.size<=b/\b<Wb.heap.size:=fun b hb=>dr.lt b hb;have kS:=Nf hVB;clear ae dr yG hVB
     go_wp2_with (first|(go_at_call 29;go_loud (refine(pE.out _ Jb).mono ?_;rintro r wo ⟨⟨vo,rfl,ay⟩,cW⟩;obtain⟨Ao,co,rfl,xW,tW⟩:=Jv ay;have hcwo:=Jg cW;have jB:=cW.size)))
     refine Jo fun W3 hW3=>?_;have uk:=Nd wo W3 (by rw [hW3];exact Jb)
     have aM:=Nd Wb W3 (Jn cW uk jB);have ul:=Nd W W3 (Jn ab aM ab.size);have yH:=Jy mU.out aM;have hO3:=Jy ay uk;have hOb:∀b,(Value.slice Ao (J1 p).1.length co).ownBlock=some b->Wb.heap.size<=b:=fun b hb=>(hO3.lt b hb).1;have hip:∀W',W3.grownBy W' u8.ownBlock->Yq W' (J1 p).1 Ao co:=fun W' hg=>Yq.of_own (X5 hO3 hg (fun b hb he=>by have:=(kS.out b hb).2;have:=hOb b he;omega));have HIP:=Nf hip;have lQ:=Nf yH;have hol:=lN.out.2.1;unfold maxLen at tW;clear hW3 hcwo jB ay cW uk yH hO3 hOb hip q0 q1 q2 q3 q4 HP0 HP3 pE mU ab bu lu;generalize (J1 p).1=O at *;obtain⟨VO,sL⟩:∃VO,VO=u8:=⟨_,rfl⟩;rw [<-sL] at HIP kS lQ
     go_wp2_with fail
     go_loopw [8,13] (fun V i wr=>∃(k:Nat),k<=O.length/\i = .int .i64 k/\Hid (Zo W.heap.size W3 VO.ownBlock wr V (I2 ++ Xd (Jp L) (Kg C) L p.eqs (O.take k)))) (fun _ i _=>O.length-(intOf i).toNat)
     case atStart=>exact⟨0,Np,rfl,Nf ⟨by rw [List.take_zero,Xd,List.append_nil,<-sL];exact lQ.out,.inl (by rw [sL]),Zj _ _⟩⟩
     case round=>
      clear lQ;obtain⟨k,dU,rfl,cP⟩:=hrel;have ab:=Nd W wr (J2 ul cP.out.grow (fun b hb=>(kS.out b hb).1) ul.size);have bu:=ab.size;have lu:=lt0 w wr;have yI:=Jhf (Jp L) (Kg C) L p.eqs (fun q hq c=>eO.out q hq _ _ c) (O.take k);rw [List.length_take] at yI;have yJ:(I2 ++ Xd (Jp L) (Kg C) L p.eqs (O.take k)).length<=10000:=Li
      by_cases jp:k<O.length
      ·have hx:O[k]?=some O[k]:=Ng jp;have aP:O.take (k+1)=O.take k ++ [O[k]]:=by rw [List.take_succ_eq_append_getElem jp]
       generalize O[k]=jj at hx aP;obtain⟨m,q,rfl,hq⟩:=lN.out.2.2 k jj hx;have aj:=Ni hq;obtain⟨j,v,cL,oE,xo,hvn,mW⟩:=yF.out q aj
       have fE:I2 ++ Xd (Jp L) (Kg C) L p.eqs (O.take (k+1))=(I2 ++ Xd (Jp L) (Kg C) L p.eqs (O.take k)) ++ Qk (Jp L) (v.ck,v.cn) (q.e.gen (Jp L) (Kg C) (v.ck,v.cn) ++ [(3,(j:Int))]):=by
        rw [aP,Jif,Jpr _ _ _ _ _ _ hq,<-mW,cL,List.append_assoc]
       have yK:=HIP.out wr cP.out.grow;obtain⟨bo,oo,rfl,lq⟩:=yK.2.2 Ua;have o0:=lq k _ hx;have dW:m<p.eqs.length:=(Nh hq).1;have hmlt2:(m:Int)<(p.eqs.length:Int):=Ua;have eU:(0:Int)<=(m:Int):=Ua;obtain⟨b,off,B1,k1,B2,k2,rfl,bG,⟨g0',g1',g2',g3',g4',g5',g6',g7',g8',g9',sf,se⟩⟩:=gj.out.eqs.get hq;have ar:wr.drew.cell? ⟨w.heap.size,4,none⟩=some (.slice (some ⟨b,off,none⟩) p.eqs.length c4)/\wr.drew.cell? ⟨bo,oo+k,none⟩=some (.int .i64 (m:Int))/\wr.drew.cell? ⟨b,off+m * 10,none⟩=some (.string q.name)/\wr.drew.cell? ⟨b,off+m * 10+1,none⟩=some (.int .i64 q.delay)/\wr.drew.cell? ⟨b,off+m * 10+2,none⟩=some (.int .i64 q.first.kind)/\wr.drew.cell? ⟨b,off+m * 10+3,none⟩=some (.int .i32 q.first.n)/\wr.drew.cell? ⟨b,off+m * 10+4,none⟩=some (.string q.first.name)/\wr.drew.cell? ⟨b,off+m * 10+5,none⟩=some (.slice B1 q.first.sub.length k1)/\wr.drew.cell? ⟨b,off+m * 10+6,none⟩=some (.int .i64 q.e.kind)/\wr.drew.cell? ⟨b,off+m * 10+7,none⟩=some (.int .i32 q.e.n)/\wr.drew.cell? ⟨b,off+m * 10+8,none⟩=some (.string q.e.name)/\wr.drew.cell? ⟨b,off+m * 10+9,none⟩=some (.slice B2 q.e.sub.length k2):=⟨Ja ab p4,o0,Ja ab g0',Ja ab g1',Ja ab g2',Ja ab g3',Ja ab g4',Ja ab g5',Ja ab g6',Ja ab g7',Ja ab g8',Ja ab g9'⟩;have oD:=Nf fE;have hglen:=eO.out q aj (Jp L) (Kg C) (v.ck,v.cn);have iN:=fun W' (hb:Below W.heap.size W W')=>ui.out q aj B2 k2 v.ck v.cn W' (gj.out.va.later hb) (gj.out.ce.later hb) (se.later hb);unfold exV at iN;have hvck:=(nA.out v xo).ck;have mX:j<L.length:=(Nh oE).1;obtain⟨bv,ov,rfl,hbv2,⟨e0',e1',e2',e3'⟩⟩:=gj.out.va.get oE;have HRX:=Nf iN;have HRF:=Nf cL;have hHS:∀(o:Obj),(wr.drew.alloc o).cell? ⟨w.heap.size,4,none⟩=some (.slice (some ⟨b,off,none⟩) p.eqs.length c4)/\(wr.drew.alloc o).cell? ⟨bo,oo+k,none⟩=some (.int .i64 (m:Int))/\(wr.drew.alloc o).cell? ⟨b,off+m * 10,none⟩=some (.string q.name)/\(wr.drew.alloc o).cell? ⟨b,off+m * 10+1,none⟩=some (.int .i64 q.delay)/\(wr.drew.alloc o).cell? ⟨b,off+m * 10+2,none⟩=some (.int .i64 q.first.kind)/\(wr.drew.alloc o).cell? ⟨b,off+m * 10+3,none⟩=some (.int .i32 q.first.n)/\(wr.drew.alloc o).cell? ⟨b,off+m * 10+4,none⟩=some (.string q.first.name)/\(wr.drew.alloc o).cell? ⟨b,off+m * 10+5,none⟩=some (.slice B1 q.first.sub.length k1)/\(wr.drew.alloc o).cell? ⟨b,off+m * 10+6,none⟩=some (.int .i64 q.e.kind)/\(wr.drew.alloc o).cell? ⟨b,off+m * 10+7,none⟩=some (.int .i32 q.e.n)/\(wr.drew.alloc o).cell? ⟨b,off+m * 10+8,none⟩=some (.string q.e.name)/\(wr.drew.alloc o).cell? ⟨b,off+m * 10+9,none⟩=some (.slice B2 q.e.sub.length k2):=fun o=>⟨J4 ar.1,J4 ar.2.1,J4 ar.2.2.1,J4 ar.2.2.2.1,J4 ar.2.2.2.2.1,J4 ar.2.2.2.2.2.1,J4 ar.2.2.2.2.2.2.1,J4 ar.2.2.2.2.2.2.2.1,J4 ar.2.2.2.2.2.2.2.2.1,J4 ar.2.2.2.2.2.2.2.2.2.1,J4 ar.2.2.2.2.2.2.2.2.2.2.1,J4 ar.2.2.2.2.2.2.2.2.2.2.2⟩;have HHS:=Nf hHS;clear hx aP hq aj cL oE xo hvn mW fE yK lq o0 bG hbv2 e0' e1' g0' g1' g2' g3' g4' g5' g6' g7' g8' g9' sf se iN hHS yI;generalize q.e.gen (Jp L) (Kg C) (v.ck,v.cn)=xc at *;generalize I2 ++ Xd (Jp L) (Kg C) L p.eqs (O.take k)=lk at *;have p4r:=Ja ab p4
       go_wp2_with fail
       refine Kd (fun w'=>w'.cell? ⟨w.heap.size,4,none⟩=some (.slice (some ⟨b,off,none⟩) p.eqs.length c4)/\w'.cell? ⟨bo,oo+k,none⟩=some (.int .i64 (m:Int))/\w'.cell? ⟨b,off+m * 10,none⟩=some (.string q.name)/\w'.cell? ⟨b,off+m * 10+1,none⟩=some (.int .i64 q.delay)/\w'.cell? ⟨b,off+m * 10+2,none⟩=some (.int .i64 q.first.kind)/\w'.cell? ⟨b,off+m * 10+3,none⟩=some (.int .i32 q.first.n)/\w'.cell? ⟨b,off+m * 10+4,none⟩=some (.string q.first.name)/\w'.cell? ⟨b,off+m * 10+5,none⟩=some (.slice B1 q.first.sub.length k1)/\w'.cell? ⟨b,off+m * 10+6,none⟩=some (.int .i64 q.e.kind)/\w'.cell? ⟨b,off+m * 10+7,none⟩=some (.int .i32 q.e.n)/\w'.cell? ⟨b,off+m * 10+8,none⟩=some (.string q.e.name)/\w'.cell? ⟨b,off+m * 10+9,none⟩=some (.slice B2 q.e.sub.length k2)) 9 1 Ug Gd ?_;simp only [List.size_toArray,Nl,Nm,Nat.zero_add,Nat.reduceAdd];refine Ji 0 ar ?_;refine Ji 1 ar ?_;refine Ji 2 ar ?_;refine Ji 3 ar ?_;refine Ji 4 ar ?_;refine Ji 5 ar ?_;refine Ji 6 ar ?_;refine Ji 7 ar ?_;refine Kb 8 ?_;refine Jj fun K hK=>?_;go_simp;refine hK _ _ ⟨HHS.out _,?_⟩;clear hK K
       try simp only [Act.put,sa1,sa2,sa3]
       refine Kh Ug ?_;refine Qx 9 ?_;refine Jj fun K hK=>?_;go_simp;refine hK _ _ ?_;clear hK K
       try simp only [Act.put,sa1,sa2,sa3]
       refine Ki Ug ?_;refine Zc fun V hV=>?_;have bK:=Nd wr V (by rw [hV];exact Jh (Jc (Nt) _))
       have mQ:V.heap.size=wr.heap.size+1:=Sc;have q0:=Nb V wr.heap.size 0 (.string q.name) L8;have q6:=Na V wr.heap.size 6 q.e.kind L8;have q7:=Nb V wr.heap.size 7 (.int .i32 q.e.n) L8;have q8:=Nb V wr.heap.size 8 (.string q.e.name) L8;have q9:=Nb V wr.heap.size 9 (.slice B2 q.e.sub.length k2) L8;have pI:=Nd W V (Jn ab bK ab.size);have hmV:=gj.out.later pI;have m0:=hmV.m0;have m1:=hmV.m1
       have dF:∀W',Below V.heap.size V W'->Calls Tryz.prog 28 #[.agg #[.slice (some ⟨bv,ov,none⟩) L.length cv,.slice Ac C.length cc],.string q.name] W' fun r w'=>r = .returned (.int .i64 (j:Int))/\Below W'.heap.size W' w':=fun W' hb=>by
        have h:=Jdt L (some ⟨bv,ov,none⟩) cv (.slice Ac C.length cc) q.name W' (gj.out.va.later (Jn pI hb pI.size));rw [HRF.out] at h;exact h
       have sI:=Nf dF;have hyV:=lt0 wr V;clear hV hmV dF ar HHS
       go_upto_region 21 with (first|(go_at_call 28;go_loud (refine(sI.out _ (Nt)).mono ?_;rintro r w1 ⟨rfl,ac⟩)))
       refine Jo fun V2 bz=>?_;have aq:=Nd V V2 (by rw [bz];exact ac)
       have br:=aq.size;have pJ:=Nd W V2 (Jn pI aq pI.size)
       have um:∀w',Below V2.heap.size V2 w'->w'.cell? ⟨X,0,none⟩=some (.slice (some ⟨bv,ov,none⟩) L.length cv)/\w'.cell? ⟨X,1,none⟩=some (.slice Ac C.length cc)/\w'.cell? ⟨wr.heap.size,6,none⟩=some (.int .i64 q.e.kind)/\w'.cell? ⟨wr.heap.size,7,none⟩=some (.int .i32 q.e.n)/\w'.cell? ⟨wr.heap.size,8,none⟩=some (.string q.e.name)/\w'.cell? ⟨wr.heap.size,9,none⟩=some (.slice B2 q.e.sub.length k2)/\w'.cell? ⟨bv,ov+j * 4+2,none⟩=some (.int .i64 v.ck)/\w'.cell? ⟨bv,ov+j * 4+3,none⟩=some (.string v.cn):=fun w' hb=>
        have aC:=Jn pJ hb pJ.size
        ⟨Ja aC gj.out.m0,Ja aC gj.out.m1,Ja hb (Ja aq q6),Ja hb (Ja aq q7),Ja hb (Ja aq q8),Ja hb (Ja aq q9),Ja aC e2',Ja aC e3'⟩
       have HS21:=Nf um;have ar:=um V2.drew (Jh (Nt));have yL:(j:Int)<(L.length:Int):=Ua;have wP:(0:Int)<=(j:Int):=Ua;have hj32:I32 (j:Int):=Vh;clear bz ac um m0 m1 q0 q6 q7 q8 q9 sI;refine Kd (fun w'=>w'.cell? ⟨X,0,none⟩=some (.slice (some ⟨bv,ov,none⟩) L.length cv)/\w'.cell? ⟨X,1,none⟩=some (.slice Ac C.length cc)/\w'.cell? ⟨wr.heap.size,6,none⟩=some (.int .i64 q.e.kind)/\w'.cell? ⟨wr.heap.size,7,none⟩=some (.int .i32 q.e.n)/\w'.cell? ⟨wr.heap.size,8,none⟩=some (.string q.e.name)/\w'.cell? ⟨wr.heap.size,9,none⟩=some (.slice B2 q.e.sub.length k2)/\w'.cell? ⟨bv,ov+j * 4+2,none⟩=some (.int .i64 v.ck)/\w'.cell? ⟨bv,ov+j * 4+3,none⟩=some (.string v.cn)) 10 1 Ug Gd ?_;simp only [List.size_toArray,Nl,Nm,Nat.zero_add,Nat.reduceAdd];refine Ji 0 ar ?_;refine Ji 1 ar ?_;refine Ji 2 ar ?_;refine Ji 3 ar ?_;refine Ji 4 ar ?_;refine Ji 5 ar ?_;refine Ji 6 ar ?_;refine Ji 7 ar ?_;refine Ji 8 ar ?_;refine Kb 9 ?_;refine Jj fun K hK=>?_;go_simp;refine(HRX.out V2.drew (Jh pJ)).mono ?_;rintro r w4 ⟨⟨u,rfl,hu⟩,ei⟩;dsimp only;have gu:=Nd V2 w4 (Jd (Jh (Nt)) ei);refine hK _ _ ⟨HS21.out _ gu,?_⟩;clear hK K
       try simp only [Act.put,sa1,sa2,sa3]
       refine Kh Ug ?_;refine Qx 10 ?_;refine Jj fun K hK=>?_;go_simp;refine hK _ _ ?_;clear hK K
       try simp only [Act.put,sa1,sa2,sa3]
       refine Ki Ug ?_;have qS:=gu.size;have rz:=fun W'=>Xo 3 (j:Int) hj32 W';clear ar HRX
       go_upto_region 23 with (first
        | (go_at_call 27;go_loud (refine(rz _).mono ?_;rintro r w5 ⟨rfl,da⟩;have yx:=da.size))
        | (at_builtin;go_loud (refine K6 rfl (.tmp 107) (.tmp 110) 29 rfl V2.heap.size 59 _ 2 16 Tryz.underlying29 Qz rfl Ua u xc.length (cdC xc) _ 1 1 (cdC [(3,(j:Int))]) rfl (Js (Jy hu da)) rfl (Qr rfl rfl) (Q2 _) Ua Ua Uj ?_;intro v6 w6 fi yM)))
       refine Jo fun V6 un=>?_;have hb26:=Nd V2 V6 (by rw [un];exact Below.trans (Jc (Below.trans gu (da.mono qS)) _) yM)
       have nH:=Nd wr V6 (Jn bK (Jn aq hb26 br) bK.size);have gT:=Nd W V6 (Jn ab nH ab.size);have fZ:V6.ownsRow V2.heap.size 59 2 v6 (xc ++ [(3,(j:Int))]).length (cdC (xc ++ [(3,(j:Int))])):=by rw [un,Nk,Jbr];exact fi
       have lB:(xc ++ [(3,(j:Int))]).length<=361:=by rw [Nk];simp;omega
       clear un fi yM da ei gu hu rz;generalize xc ++ [(3,(j:Int))]=xx at *;have lY:∀b,u8.ownBlock=some b->W.heap.size<=b/\b<wr.heap.size:=fun b hb=>cP.out.own.lt b hb;have pK:Jf1 V6.drew u8.ownBlock fun W'=>W'.ownsRow V2.heap.size 59 2 v6 xx.length (cdC xx):=fun W' hg=>X5 (Kp fZ) hg (fun b hb he=>by have:=(lY b hb).2;have:=(fZ.lt b he).1;omega);obtain⟨Ax,cx,rfl,hcx1,uo⟩:=Jv fZ
       have lZ:=Jlp W.heap.size u8 L (.slice Ac C.length cc) (some ⟨bv,ov,none⟩) cv lk xx Ax cx v.ck v.cn V6.drew gT.size (Kp (Jy cP.out.own nH)) (fun W' hg=>by
        obtain⟨A',c',nI,aY⟩:=J3.of_own (pK W' hg);injection nI with y1 y2 y3;subst y1 y3;exact aY) (fun W' hg=>gj.out.va.later (J2 (Jh gT) hg (fun b hb=>(lY b hb).1) gT.size)) hL6 hvck Ua
       unfold Jcc at lZ
       have up:∀w',Below W.heap.size W w'->w'.cell? ⟨X,0,none⟩=some (.slice (some ⟨bv,ov,none⟩) L.length cv)/\w'.cell? ⟨X,1,none⟩=some (.slice Ac C.length cc)/\w'.cell? ⟨bv,ov+j * 4+2,none⟩=some (.int .i64 v.ck)/\w'.cell? ⟨bv,ov+j * 4+3,none⟩=some (.string v.cn):=fun w' hb=>
        ⟨Ja hb gj.out.m0,Ja hb gj.out.m1,Ja hb e2',Ja hb e3'⟩
       have HS23:=Nf up;have ar:=up V6.drew (Jh gT);have pL:=Nf lZ;unfold maxLen at uo;clear lZ up pK;refine Kd (fun w'=>w'.cell? ⟨X,0,none⟩=some (.slice (some ⟨bv,ov,none⟩) L.length cv)/\w'.cell? ⟨X,1,none⟩=some (.slice Ac C.length cc)/\w'.cell? ⟨bv,ov+j * 4+2,none⟩=some (.int .i64 v.ck)/\w'.cell? ⟨bv,ov+j * 4+3,none⟩=some (.string v.cn)) 10 1 Ug Gd ?_;simp only [List.size_toArray,Nl,Nm,Nat.zero_add,Nat.reduceAdd];refine Ji 0 ar ?_;refine Ji 1 ar ?_;refine Ji 2 ar ?_;refine Ji 3 ar ?_;refine Ji 4 ar ?_;refine Ji 5 ar ?_;refine Ji 6 ar ?_;refine Ji 7 ar ?_;refine Ji 8 ar ?_;refine Kb 9 ?_;refine Jj fun K hK=>?_;go_simp;refine(pL.out).mono ?_;rintro r w7 ⟨v7,rfl,hR⟩;dsimp only;have hB7:=Nd W w7 (J2 (Jh gT) hR.grow (fun b hb=>(lY b hb).1) gT.size);refine hK _ _ ⟨HS23.out _ hB7,?_⟩;clear hK K
       try simp only [Act.put,sa1,sa2,sa3]
       refine Kh Ug ?_;refine Qx 10 ?_;refine Jj fun K hK=>?_;go_simp;refine hK _ _ ?_;clear hK K
       try simp only [Act.put,sa1,sa2,sa3]
       refine Ki Ug ?_;have HR:=Nf ((cP.out.bel (Jh nH)).next hR);clear ar hR pL
       go_wp2_with fail
       go_roundw
       case rel=>exact⟨k+1,Ua,Up,Nf (by rw [oD.out];exact HR.out)⟩
       case measure=>simp [intOf];omega
      ·obtain rfl:k=O.length:=Ua;have hR:=cP.out;rw [List.take_length] at hR yJ;generalize I2 ++ Xd (Jp L) (Kg C) L p.eqs O=I3 at *;have yH:=hR.own;have lQ:=Nf yH;clear cP hR yH HIP kS sL ul aM hol lN
       go_wp2_with fail
       go_loopw [8,17] (fun V i wr=>∃(k:Nat),k<=C.length/\i = .int .i64 k/\Hid (wr.ownsRow W.heap.size 59 2 V (I3 ++ Xw (Jp L) (Kg C) p.eqs 0 (C.take k)).length (cdC (I3 ++ Xw (Jp L) (Kg C) p.eqs 0 (C.take k))))/\Below W.heap.size W wr) (fun _ i _=>C.length-(intOf i).toNat)
       case atStart=>exact⟨0,Np,rfl,Nf (by rw [List.take_zero,Xw,List.append_nil];exact lQ.out),ab⟩
       case round=>
        clear lQ ab bu lu;obtain⟨k,iA,rfl,ae,ab⟩:=hrel;obtain⟨Wk,rfl⟩:∃Wk,Wk=wr:=⟨wr,rfl⟩;have bu:=ab.size;have lu:=lt0 w Wk;have pM:=Jm5 (Jp L) (Kg C) p.eqs (fun q hq c=>eO.out q hq _ _ c) (C.take k) 0;rw [List.length_take] at pM;have yN:(I3 ++ Xw (Jp L) (Kg C) p.eqs 0 (C.take k)).length<=30000:=Li
        by_cases uq:k<C.length
        ·have hx:C[k]?=some C[k]:=Ng uq;have aP:C.take (k+1)=C.take k ++ [C[k]]:=by rw [List.take_succ_eq_append_getElem uq]
         have xU:=oV.out C[k] (Nj uq);generalize C[k]=x at hx aP xU
         have fE:I3 ++ Xw (Jp L) (Kg C) p.eqs 0 (C.take (k+1))=(I3 ++ Xw (Jp L) (Kg C) p.eqs 0 (C.take k)) ++ Qk (Jp L) (x.ck,x.cn) (Zm (Jp L) (Kg C) x [(1,1)] p.eqs ++ [(5,(k:Int))]):=by
          rw [aP,Jkr,List.length_take,show 0+min k C.length=k by omega,List.append_assoc]
         obtain⟨b,off,rfl,cB⟩:=gj.out.ce.2.2.2 Ua;have aY:=Jdh C k x hx;have d0:=cB _ _ aY.1;have d1:=cB _ _ aY.2.1;have d2:=cB _ _ aY.2.2.1;have oD:=Nf fE;have gh:I32 1:=Vh;have kQ:I32 (k:Int):=Vh;have hxlen:=Jio (Jp L) (Kg C) x p.eqs [(1,1)] (fun q hq c=>eO.out q hq _ _ c) Ul;clear hx aP cB aY fE pM;generalize I3 ++ Xw (Jp L) (Kg C) p.eqs 0 (C.take k)=lk at *;have aH:=Nu d0
         go_wp2_with (first|(go_at_call 27;go_loud (refine(Xo 1 1 gh _).mono ?_;rintro r w1 ⟨rfl,ac⟩;have af:=ac.size)))
         go_loopw [18,19] (fun Y i wr=>∃(j:Nat),j<=p.eqs.length/\i = .int .i64 j/\Hid (wr.ownsRow Wk.heap.size 59 2 Y (Zm (Jp L) (Kg C) x [(1,1)] (p.eqs.take j)).length (cdC (Zm (Jp L) (Kg C) x [(1,1)] (p.eqs.take j))))/\Below Wk.heap.size Wk wr) (fun _ i _=>p.eqs.length-(intOf i).toNat)
         case atStart=>exact⟨0,Np,rfl,Nf (by rw [List.take_zero];exact K8 (Jex w1 (1,1) 59) af),Jc ac _⟩
         case round=>
          clear ac af;obtain⟨j,hj,rfl,hox,dQ⟩:=hrel;have hzj:=dQ.size;have nJ:=Nd W wr (Jn ab dQ ab.size);have hyw2:=lt0 w wr;have p4j:=Ja nJ p4;have hk4i:(k:Int)<(C.length:Int):=Ua
          by_cases nK:j<p.eqs.length
          ·have hx:p.eqs[j]?=some p.eqs[j]:=Ng nK;have aj:p.eqs[j]∈p.eqs:=Nj nK;have aP:p.eqs.take (j+1)=p.eqs.take j ++ [p.eqs[j]]:=by rw [List.take_succ_eq_append_getElem nK]
           generalize p.eqs[j]=q at hx aj aP;have hkx:=Jso (Jp L) (Kg C) x (p.eqs.take j) q [(1,1)];rw [<-aP] at hkx;obtain⟨b',off',B1,k1,B2,k2,rfl,bG,⟨g0',g1',g2',g3',g4',g5',g6',g7',g8',g9',sf,se⟩⟩:=gj.out.eqs.get hx;have iN:=fun W' (hb:Below W.heap.size W W')=>ui.out q aj B2 k2 x.ck x.cn W' (gj.out.va.later hb) (gj.out.ce.later hb) (se.later hb);unfold exV at iN;have n0:=Ja nJ d0;have n1:=Ja nJ g0';have wQ:=Nf hkx
           have hS:∀w',Below W.heap.size W w'->w'.cell? ⟨X,0,none⟩=some (.slice Av L.length cv)/\w'.cell? ⟨X,1,none⟩=some (.slice (some ⟨b,off,none⟩) C.length cc)/\w'.cell? ⟨w.heap.size,4,none⟩=some (.slice (some ⟨b',off',none⟩) p.eqs.length c4)/\w'.cell? ⟨b',off'+j * 10+6,none⟩=some (.int .i64 q.e.kind)/\w'.cell? ⟨b',off'+j * 10+7,none⟩=some (.int .i32 q.e.n)/\w'.cell? ⟨b',off'+j * 10+8,none⟩=some (.string q.e.name)/\w'.cell? ⟨b',off'+j * 10+9,none⟩=some (.slice B2 q.e.sub.length k2)/\w'.cell? ⟨b,off+k * 4+1,none⟩=some (.int .i64 x.ck)/\w'.cell? ⟨b,off+k * 4+2,none⟩=some (.string x.cn):=fun w' hb=>
            ⟨Ja hb gj.out.m0,Ja hb gj.out.m1,Ja hb p4,Ja hb g6',Ja hb g7',Ja hb g8',Ja hb g9',Ja hb d1,Ja hb d2⟩
           have HS:=Nf hS;have ar:=hS wr.drew (Jh nJ);have HRX:=Nf iN;have ur:=Nu n0;have hbb4:=Nu n1;clear hx aj aP hkx bG g0' g1' g2' g3' g4' g5' g6' g7' g8' g9' sf se iN hS aH;generalize Zm (Jp L) (Kg C) x [(1,1)] (p.eqs.take j)=kx at *;generalize q.e.gen (Jp L) (Kg C) (x.ck,x.cn)=xc at *
           cases aS:x.name.toList.isEmpty
           ·cases ou:(q.name.toList == x.name.toList)
            ·rw [aS,ou] at wQ;exact Uba
            ·rw [aS,ou] at wQ;clear ar
             go_wp2_with fail
             go_quiet (fail)
             go_wp2_with fail
             refine Jo fun wj hwj=>?_;have yO:=Nd wr wj (by rw [hwj];exact J8 (Nt) _)
             have hBj:=Nd W wj (Jn nJ yO nJ.size);have hBk:=Nd Wk wj (Jn dQ yO dQ.size);have ar:=HS.out wj.drew (Jh hBj);have hzjj:=hBk.size;clear hwj;refine Kd (fun w'=>w'.cell? ⟨X,0,none⟩=some (.slice Av L.length cv)/\w'.cell? ⟨X,1,none⟩=some (.slice (some ⟨b,off,none⟩) C.length cc)/\w'.cell? ⟨w.heap.size,4,none⟩=some (.slice (some ⟨b',off',none⟩) p.eqs.length c4)/\w'.cell? ⟨b',off'+j * 10+6,none⟩=some (.int .i64 q.e.kind)/\w'.cell? ⟨b',off'+j * 10+7,none⟩=some (.int .i32 q.e.n)/\w'.cell? ⟨b',off'+j * 10+8,none⟩=some (.string q.e.name)/\w'.cell? ⟨b',off'+j * 10+9,none⟩=some (.slice B2 q.e.sub.length k2)/\w'.cell? ⟨b,off+k * 4+1,none⟩=some (.int .i64 x.ck)/\w'.cell? ⟨b,off+k * 4+2,none⟩=some (.string x.cn)) 13 1 Ug Gd ?_;simp only [List.size_toArray,Nl,Nm,Nat.zero_add,Nat.reduceAdd];refine Ji 0 ar ?_;refine Ji 1 ar ?_;refine Ji 2 ar ?_;refine Ji 3 ar ?_;refine Ji 4 ar ?_;refine Ji 5 ar ?_;refine Ji 6 ar ?_;refine Ji 7 ar ?_;refine Ji 8 ar ?_;refine Ji 9 ar ?_;refine Ji 10 ar ?_;refine Ji 11 ar ?_;refine Kb 12 ?_;refine Jj fun K hK=>?_;go_simp;refine(HRX.out wj.drew (Jh hBj)).mono ?_;rintro r w4 ⟨⟨u,rfl,hu⟩,ei⟩;dsimp only;have gu:=Nd wj w4 (Jd (Jh (Nt)) ei);refine hK _ _ ⟨HS.out _ (Jn hBj gu hBj.size),?_⟩;clear hK K
             try simp only [Act.put,sa1,sa2,sa3]
             refine Kh Ug ?_;refine Qx 13 ?_;refine Jj fun K hK=>?_;go_simp;refine hK _ _ ?_;clear hK K
             try simp only [Act.put,sa1,sa2,sa3]
             refine Ki Ug ?_;have hu':=Nf (K8 hu (B':=Wk.heap.size) hzjj);have hB4k:=Nd Wk w4 (Jn hBk gu hBk.size);clear ar hu
             go_wp2_with fail
             go_roundw
             case rel=>exact⟨j+1,Ua,Up,Nf (by rw [wQ.out,if_pos Ul];exact hu'.out),hB4k⟩
             case measure=>simp [intOf];omega
           ·rw [aS] at wQ;exact Uba
          ·obtain rfl:j=p.eqs.length:=Ua;have hxo:=hox.out;rw [List.take_length] at hxo;generalize Zm (Jp L) (Kg C) x [(1,1)] p.eqs=xc at *;have HXO:=Nf hxo;have yP:=fun W'=>Xo 5 (k:Int) kQ W';clear hox hxo
           go_upto_region 34 with (first
            | (go_at_call 27;go_loud (refine(yP _).mono ?_;rintro r w5 ⟨rfl,da⟩;have yx:=da.size))
            | (at_builtin;go_loud (refine K6 rfl (.tmp 170) (.tmp 173) 29 rfl Wk.heap.size 59 _ 2 16 Tryz.underlying29 Qz rfl Ua u18 xc.length (cdC xc) _ 1 1 (cdC [(5,(k:Int))]) rfl (Js (Jy HXO.out da)) rfl (Qr rfl rfl) (Q2 _) Ua Ua Uj ?_;intro v6 w6 fi yM)))
           refine Jo fun V6 un=>?_;have nH:=Nd Wk V6 (by rw [un];exact Below.trans (Jc (Below.trans dQ (da.mono hzj)) _) yM)
           have gT:=Nd W V6 (Jn ab nH ab.size);have fZ:V6.ownsRow Wk.heap.size 59 2 v6 (xc ++ [(5,(k:Int))]).length (cdC (xc ++ [(5,(k:Int))])):=by rw [un,Nk,Jbr];exact fi
           have lB:(xc ++ [(5,(k:Int))]).length<=361:=by rw [Nk];simp;omega
           clear un fi yM da yP HXO;generalize xc ++ [(5,(k:Int))]=xx at *;have lY:∀b,u8.ownBlock=some b->W.heap.size<=b/\b<Wk.heap.size:=fun b hb=>ae.out.lt b hb;have pK:Jf1 V6.drew u8.ownBlock fun W'=>W'.ownsRow Wk.heap.size 59 2 v6 xx.length (cdC xx):=fun W' hg=>X5 (Kp fZ) hg (fun b hb he=>by have:=(lY b hb).2;have:=(fZ.lt b he).1;omega);obtain⟨Ax,cx,rfl,hcx1,uo⟩:=Jv fZ
           have lZ:=Jlp W.heap.size u8 L (.slice (some ⟨b,off,none⟩) C.length cc) Av cv lk xx Ax cx x.ck x.cn V6.drew gT.size (Kp (Jy ae.out nH)) (fun W' hg=>by
            obtain⟨A',c',nI,aY⟩:=J3.of_own (pK W' hg);injection nI with y1 y2 y3;subst y1 y3;exact aY) (fun W' hg=>gj.out.va.later (J2 (Jh gT) hg (fun b hb=>(lY b hb).1) gT.size)) hL6 xU Ua
           unfold Jcc at lZ
           have ut:∀w',Below W.heap.size W w'->w'.cell? ⟨X,0,none⟩=some (.slice Av L.length cv)/\w'.cell? ⟨X,1,none⟩=some (.slice (some ⟨b,off,none⟩) C.length cc)/\w'.cell? ⟨b,off+k * 4+1,none⟩=some (.int .i64 x.ck)/\w'.cell? ⟨b,off+k * 4+2,none⟩=some (.string x.cn):=fun w' hb=>
            ⟨Ja hb gj.out.m0,Ja hb gj.out.m1,Ja hb d1,Ja hb d2⟩
           have HS34:=Nf ut;have ar:=ut V6.drew (Jh gT);have pL:=Nf lZ;unfold maxLen at uo;clear lZ ut pK;refine Kd (fun w'=>w'.cell? ⟨X,0,none⟩=some (.slice Av L.length cv)/\w'.cell? ⟨X,1,none⟩=some (.slice (some ⟨b,off,none⟩) C.length cc)/\w'.cell? ⟨b,off+k * 4+1,none⟩=some (.int .i64 x.ck)/\w'.cell? ⟨b,off+k * 4+2,none⟩=some (.string x.cn)) 9 1 Ug Gd ?_;simp only [List.size_toArray,Nl,Nm,Nat.zero_add,Nat.reduceAdd];refine Ji 0 ar ?_;refine Ji 1 ar ?_;refine Ji 2 ar ?_;refine Ji 3 ar ?_;refine Ji 4 ar ?_;refine Ji 5 ar ?_;refine Ji 6 ar ?_;refine Ji 7 ar ?_;refine Kb 8 ?_;refine Jj fun K hK=>?_;go_simp;refine(pL.out).mono ?_;rintro r w7 ⟨v7,rfl,hR⟩;dsimp only;have hB7:=Nd W w7 (J2 (Jh gT) hR.grow (fun b hb=>(lY b hb).1) gT.size);refine hK _ _ ⟨HS34.out _ hB7,?_⟩;clear hK K
           try simp only [Act.put,sa1,sa2,sa3]
           refine Kh Ug ?_;refine Qx 9 ?_;refine Jj fun K hK=>?_;go_simp;refine hK _ _ ?_;clear hK K
           try simp only [Act.put,sa1,sa2,sa3]
           refine Ki Ug ?_;have HR:=Nf hR.own;clear ar hR pL
           go_wp2_with fail
           go_roundw
           case rel=>exact⟨k+1,Ua,Up,Nf (by rw [oD.out];exact HR.out),hB7⟩
           case measure=>simp [intOf];omega
        ·obtain rfl:k=C.length:=Ua;have dr:=ae.out;rw [List.take_length] at dr yN;generalize I3 ++ Xw (Jp L) (Kg C) p.eqs 0 C=I4 at *;have qP:=Nf dr;clear ae dr pM
         go_wp2_with fail
         go_loopw [8,20] (fun V i wr=>∃(k:Nat),k<=p.outs.length/\i = .int .i64 k/\Hid (wr.ownsRow W.heap.size 59 2 V (I4 ++ Xl (Jp L) 0 (p.outs.take k)).length (cdC (I4 ++ Xl (Jp L) 0 (p.outs.take k))))/\Below W.heap.size W wr) (fun _ i _=>p.outs.length-(intOf i).toNat)
         case atStart=>exact⟨0,Np,rfl,Nf (by rw [List.take_zero,Xl,List.append_nil];exact qP.out),ab⟩
         case round=>
          clear qP ab bu lu;obtain⟨k,hk5,rfl,ae,ab⟩:=hrel;have bu:=ab.size;have lu:=lt0 w wr;have uu:=Jhh (Jp L) (p.outs.take k) 0;rw [List.length_take] at uu;have yQ:(I4 ++ Xl (Jp L) 0 (p.outs.take k)).length<=40000:=Li;have p2r:=Ja ab p2
          by_cases rA:k<p.outs.length
          ·have hx:p.outs[k]?=some p.outs[k]:=Ng rA;have aP:p.outs.take (k+1)=p.outs.take k ++ [p.outs[k]]:=by rw [List.take_succ_eq_append_getElem rA]
           generalize p.outs[k]=x at hx aP;obtain⟨b,off,rfl,bG,⟨d0',d1',d2',d3'⟩⟩:=gj.out.outs.get hx
           have fE:I4 ++ Xl (Jp L) 0 (p.outs.take (k+1))=(I4 ++ Xl (Jp L) 0 (p.outs.take k)) ++ [(2,Jp L x.name),(7,(k:Int))]:=by
            rw [aP,Jhy,List.length_take,show 0+min k p.outs.length=k by omega,List.append_assoc]
           have hS:∀w',Below W.heap.size W w'->w'.cell? ⟨X,0,none⟩=some (.slice Av L.length cv)/\w'.cell? ⟨X,1,none⟩=some (.slice Ac C.length cc)/\w'.cell? ⟨w.heap.size,2,none⟩=some (.slice (some ⟨b,off,none⟩) p.outs.length c2)/\w'.cell? ⟨b,off+k * 4,none⟩=some (.string x.name):=fun w' hb=>
            ⟨Ja hb gj.out.m0,Ja hb gj.out.m1,Ja hb p2,Ja hb d0'⟩
           have HSW:=Nf hS;have HS:=Nf (fun w' (hb:Below wr.heap.size wr w')=>hS w' (Jn ab hb ab.size));have ar:=hS wr.drew (Jh ab);have dF:=fun W' (hb:Below wr.heap.size wr W')=>Jdt L Av cv (.slice Ac C.length cc) x.name W' (gj.out.va.later (Jn ab hb ab.size));have kQ:I32 (k:Int):=Vh;have hin7:=fun W'=>Xo 7 (k:Int) kQ W';have pC:=fun W'=>Xo 2 (Jp L x.name) (uf x.name) W';have sI:=Nf dF;have oD:=Nf fE;clear hx aP fE hS dF bG d0' d1' d2' d3' uu;generalize I4 ++ Xl (Jp L) 0 (p.outs.take k)=lk at *;generalize Jp L x.name=fn at *
           go_wp2_with fail
           refine Kd (fun w'=>w'.cell? ⟨X,0,none⟩=some (.slice Av L.length cv)/\w'.cell? ⟨X,1,none⟩=some (.slice Ac C.length cc)/\w'.cell? ⟨w.heap.size,2,none⟩=some (.slice (some ⟨b,off,none⟩) p.outs.length c2)/\w'.cell? ⟨b,off+k * 4,none⟩=some (.string x.name)) 14 1 Ug Gd ?_;simp only [List.size_toArray,Nl,Nm,Nat.zero_add,Nat.reduceAdd];refine Ji 0 ar ?_;refine Ji 1 ar ?_;refine Ji 2 ar ?_;refine Ji 3 ar ?_;refine Ji 4 ar ?_;refine Ji 5 ar ?_;refine Ji 6 ar ?_;refine Ji 7 ar ?_;refine Ji 10 ar ?_;refine Kb 8 ?_;refine Jj fun K hK=>?_;go_simp;refine(sI.out _ (Jh (Nt))).mono ?_;rintro r w1 ⟨rfl,ac⟩;dsimp only;have cT:=Nd wr w1 (Jd (Jh (Nt)) ac);refine hK _ _ ⟨HS.out _ cT,?_⟩;clear hK K
           try simp only [Act.put,sa1,sa2,sa3]
           refine Kb 9 ?_;refine Jj fun K hK=>?_;go_simp;refine(pC _).mono ?_;rintro r w2 ⟨rfl,aq⟩;dsimp only;have cF:=Nd wr w2 (Jd cT aq);refine hK _ _ ⟨HS.out _ cF,?_⟩;clear hK K
           try simp only [Act.put,sa1,sa2,sa3]
           refine Kb 11 ?_;refine Jj fun K hK=>?_;go_simp;refine(hin7 _).mono ?_;rintro r w3 ⟨rfl,aM⟩;dsimp only;have cZ:=Nd wr w3 (Jd cF aM);refine hK _ _ ⟨HS.out _ cZ,?_⟩;clear hK K
           try simp only [Act.put,sa1,sa2,sa3]
           refine Kb 12 ?_;refine Jj fun K hK=>?_;go_simp;refine hK _ _ ⟨HS.out _ (Jc cZ _),?_⟩;clear hK K
           try simp only [Act.put,sa1,sa2,sa3]
           have fe:=cZ.size;refine Kb 13 ?_;refine Jez (.tmp 191) (.tmp 203) 29 rfl W.heap.size 59 _ 2 16 Tryz.underlying29 Qz rfl Ua u8 lk.length (cdC lk) _ 2 2 (cdC [(2,fn),(7,(k:Int))]) rfl (Js (Jy ae.out cZ)) rfl (Qr rfl rfl) (Q2 _) Ua Ua Uj ?_;intro v5 w5 bX eT jr;have da:=Nd W w5 (J2 (Jc (Jn ab cZ ab.size) _) eT (fun b hb=>(ae.out.lt b hb).1) Uj);refine⟨HSW.out _ da,Kh Ug ?_⟩
           try simp only [Act.put,sa1,sa2,sa3]
           refine Qx 14 ?_;refine Jj fun K hK=>?_;go_simp;refine hK _ _ ?_;clear hK K
           try simp only [Act.put,sa1,sa2,sa3]
           refine Ki Ug ?_;have pH:=Nf bX;clear bX eT jr ar
           go_wp2_with fail
           go_roundw
           case rel=>exact⟨k+1,Ua,Up,Nf (by rw [oD.out,Jbr,Nk];exact pH.out),da⟩
           case measure=>simp [intOf];omega
          ·obtain rfl:k=p.outs.length:=Ua;have fh:=ae.out;rw [List.take_length] at fh yQ;generalize I4 ++ Xl (Jp L) 0 p.outs=T at *;have eU:=(gj.out.later ab).m0;have p1r:=Ja ab p1;replace g0:=Ja ab g0;replace g1:=Ja ab g1;replace g2:=Ja ab g2;replace g3:=Ja ab g3;replace g4:=Ja ab g4;replace d0:=Ja ab d0;replace d1:=Ja ab d1;replace d2:=Ja ab d2;replace f0:=(Jf ab _ _ Ua).trans f0;replace f1:=(Jf ab _ _ Ua).trans f1;replace f2:=(Jf ab _ _ Ua).trans f2;replace f3:=(Jf ab _ _ Ua).trans f3;replace f4:=(Jf ab _ _ Ua).trans f4;replace e0:=(Jf ab _ _ Ua).trans e0;replace e1:=(Jf ab _ _ Ua).trans e1;replace e2:=(Jf ab _ _ Ua).trans e2;have jh:=Nd w wr (Jn dZ ab dZ.size);obtain⟨Az,cz,rfl,yg,yh⟩:=Jv fh;have HOZ:=Nf fh;clear ae fh gj ui yF eO nA oV HND yE uu
           by_cases lR:600<T.length
           ·have t600:(600:Int)<(T.length:Int):=Ua
            go_wp2_with fail
            refine Nv (v:= .tuple #[.slice none 0 0,.agg #[.int .i64 0,.int .i64 0,.int .i64 0,.int .i64 0,.int .i64 0],.agg #[.int .i64 4,.int .i64 0,.int .i64 3]]) G2 rfl ?_;unfold Jgs;rw [sJ.out,if_pos lR];exact⟨rfl,Qq _ _ _ (Jdj _ _ _ _ _ jh Ua) Ua⟩
           ·have t600:¬(600:Int)<(T.length:Int):=Ua
            go_wp2_with fail
            have ar:(fun w':World=>w'.cell? ⟨X,0,none⟩=some (.slice Av L.length cv)/\w'.cell? ⟨w.heap.size,1,none⟩=some (.slice A1 p.ins.length c1)/\w'.cell? ⟨w.heap.size,2,none⟩=some (.slice A2 p.outs.length c2)) wr.drew:=⟨eU,p1r,p2r⟩;refine Kd (fun w'=>w'.cell? ⟨X,0,none⟩=some (.slice Av L.length cv)/\w'.cell? ⟨w.heap.size,1,none⟩=some (.slice A1 p.ins.length c1)/\w'.cell? ⟨w.heap.size,2,none⟩=some (.slice A2 p.outs.length c2)) 18 1 Ug Gd ?_;simp only [List.size_toArray,Nl,Nm,Nat.zero_add,Nat.reduceAdd];refine Ji 0 ar ?_;refine Ji 1 ar ?_;refine Ji 2 ar ?_;refine Ji 3 ar ?_;refine Ji 4 ar ?_;refine Ji 5 ar ?_;refine Ji 6 ar ?_;refine Ji 7 ar ?_;refine Ji 8 ar ?_;refine Ji 9 ar ?_;refine Ji 10 ar ?_;refine Ji 11 ar ?_;refine Ji 12 ar ?_;refine Ji 13 ar ?_;refine Ji 14 ar ?_;refine Ji 15 ar ?_;refine Ji 16 ar ?_;refine Kb 17 ?_;refine Jj fun K hK=>?_;go_simp;refine hK _ _ ⟨⟨(by rw [Xi,Q8 _ _ _ _ _ Ua];exact eU),(by rw [Xi,Q8 _ _ _ _ _ Ua];exact p1r),(by rw [Xi,Q8 _ _ _ _ _ Ua];exact p2r)⟩,Kh Ug ?_⟩;clear hK K
            try simp only [Act.put,sa1,sa2,sa3]
            refine Jgr fun W1 bt=>?_;have ac:=Nd w W1 (by rw [bt];exact Jh (Jdj _ _ _ _ _ jh Ua))
            have cD:J6 (fun b=>b=w.heap.size+1\/b=w.heap.size+1+1) wr W1:=by rw [bt];exact((((((J6.refl wr).setCell (.inl rfl) _ _).setCell (.inl rfl) _ _).setCell (.inl rfl) _ _).setCell (.inl rfl) _ _).setCell (.inl rfl) _ _).trans' (J6.bel (Jh (Nt)))
            obtain⟨r0,r1,r2,r3,r4⟩:=Jsy (W:=wr) (.int .i64 (L.length:Nat)) (.int .i64 (C.length:Nat)) (.int .i64 (C.length:Nat)) (.int .i64 (p.ins.length:Nat)) (.int .i64 (p.outs.length:Nat)) g0 g1 g2 g3 g4;have R:∀b o,W1.cell? ⟨b,o,none⟩=(((((wr.setCell ⟨w.heap.size+1,0,none⟩ (.int .i64 (L.length:Nat))).setCell ⟨w.heap.size+1,1,none⟩ (.int .i64 (C.length:Nat))).setCell ⟨w.heap.size+1,2,none⟩ (.int .i64 (C.length:Nat))).setCell ⟨w.heap.size+1,3,none⟩ (.int .i64 (p.ins.length:Nat))).setCell ⟨w.heap.size+1,4,none⟩ (.int .i64 (p.outs.length:Nat))).cell? ⟨b,o,none⟩:=fun b o=>by rw [bt,Xi]
            have RF:∀p,W1.frozen? p=wr.frozen? p:=fun p=>by
             rw [bt,Jdn];exact Ji7 (W:=wr) (b:=w.heap.size+1) _ _ _ _ _ p
            have s0:=(R _ _).trans r0;have s1:=(R _ _).trans r1;have s2:=(R _ _).trans r2;have s3:=(R _ _).trans r3;have s4:=(R _ _).trans r4;have t0:=((R _ _).trans (Q8 _ _ _ _ _ Ua)).trans d0;have t1:=((R _ _).trans (Q8 _ _ _ _ _ Ua)).trans d1;have t2:=((R _ _).trans (Q8 _ _ _ _ _ Ua)).trans d2;have z0:=(RF _).trans e0;have z1':=(RF _).trans e1;have z2':=(RF _).trans e2;clear bt R RF r0 r1 r2 r3 r4 ar g0 g1 g2 g3 g4 f0 f1 f2 f3 f4 d0 d1 d2 e0 e1 e2 eU p1 p2 p1r p2r;refine Qx 18 ?_;refine Jj fun K hK=>?_;go_simp;refine hK _ _ ?_;clear hK K
            try simp only [Act.put,sa1,sa2,sa3]
            refine Ki Ug ?_;refine Zc fun W2 gi=>?_;obtain⟨r0,r1,r2⟩:=Jp5 (W:=W1) (.int .i64 0) (.int .i64 0) (.int .i64 0) t0 t1 t2;have R:∀b o,W2.cell? ⟨b,o,none⟩=(((W1.setCell ⟨w.heap.size+1+1,0,none⟩ (.int .i64 0)).setCell ⟨w.heap.size+1+1,1,none⟩ (.int .i64 0)).setCell ⟨w.heap.size+1+1,2,none⟩ (.int .i64 0)).cell? ⟨b,o,none⟩:=fun b o=>by rw [gi]
            have aq:=Nd w W2 Udu;have dz:J6 (fun b=>b=w.heap.size+1\/b=w.heap.size+1+1) wr W2:=Fc;have ao:=K8 (dz.own (fun b hb h=>by have:=(HOZ.out.lt b hb).1;omega) HOZ.out) (show w.heap.size<=W.heap.size by omega);have x0:=(R _ _).trans r0;have x1:=(R _ _).trans r1;have x2:=(R _ _).trans r2;have y0:=((R _ _).trans (Qy _ _ _ Ua)).trans s0;have y1:=((R _ _).trans (Qy _ _ _ Ua)).trans s1;have y2:=((R _ _).trans (Qy _ _ _ Ua)).trans s2;have y3:=((R _ _).trans (Qy _ _ _ Ua)).trans s3;have y4:=((R _ _).trans (Qy _ _ _ Ua)).trans s4;clear gi R r0 r1 r2 s0 s1 s2 s3 s4 t0 t1 t2 z0 z1' z2' cD dz
            go_wp2_with fail
            refine Nv (v:= .tuple #[.slice Az T.length cz,.agg #[.int .i64 (L.length:Nat),.int .i64 (C.length:Nat),.int .i64 (C.length:Nat),.int .i64 (p.ins.length:Nat),.int .i64 (p.outs.length:Nat)],.agg #[.int .i64 0,.int .i64 0,.int .i64 0]]) G2 rfl ?_;unfold Jgs;rw [sJ.out,if_neg lR];exact⟨⟨_,by rw [qR,hCC];rfl,ao⟩,aq⟩
end Go.Proofs.YtknfcamdfdfoeaaGreatDoor
