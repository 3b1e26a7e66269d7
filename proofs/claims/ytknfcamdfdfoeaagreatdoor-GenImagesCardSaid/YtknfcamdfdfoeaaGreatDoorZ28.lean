/- Lemmas. -/
import Derived.Test.YtknfcamdfdfoeaaGreatDoorMac
import Derived.Test.YtknfcamdfdfoeaaGreatDoorZ25
import Derived.Test.YtknfcamdfdfoeaaGreatDoorZ27
import Derived.Test.YtknfcamdfdfoeaaGreatDoorZ23
import Derived.Test.YtknfcamdfdfoeaaGreatDoorZ24
import Derived.Test.YtknfcamdfdfoeaaGreatDoorZ18
import Derived.Test.YtknfcamdfdfoeaaGreatDoorZ15
import Derived.Test.YtknfcamdfdfoeaaGreatDoorZ00
import Derived.Test.YtknfcamdfdfoeaaGreatDoorZ12
import Derived.Laws.CopyOwn
import Derived.Laws.MakeOwn
set_option linter.unusedVariables false
set_option linter.unusedSimpArgs false
set_option maxRecDepth 100000
set_option maxHeartbeats 64000000
namespace Go.Proofs.YtknfcamdfdfoeaaGreatDoor
open Go.RowKit Go.Sort Go.Maps Go.ChangeMaps Go.WideMaps
theorem Qd.toG {P:Program} {k e:TypeId} {K:Type} {ok:K->Prop} {kl:K->Lit} {W:World} {b n c:Nat} {f:K->Option Int} (h:Qd P k (plainElem P e) ok kl okI (Lit.int .i32) 0 W b n f c):Q3 P k e .i32 ok kl W b n f c:=by
 obtain⟨D,h1,h2,h3,h4⟩:=h;exact⟨D,h1,h2,h3,fun x hx=>(h4 x hx).1⟩
theorem Jfw.plan {W:World} {X Bs Bt Bf:Nat} {L:List Va} {cs:List Ce} {A:Option Addr} {cap:Nat} (h:Jfw W X Bs Bt Bf L cs A cap) (hn:(L.map (·.name)).Nodup) (hf:∀d,okC d->(Jeg cs d).getD 0=Kg cs d):Jb1 W X Bs Bf (Xu L) (Kg cs):=by
 obtain⟨c,gM⟩:=h.flags;exact⟨h.c0,h.c2,⟨_,_,_,h.slots.toG,fun s _=>by rw [Jrw s L hn];rfl⟩,⟨_,_,_,gM.toG,hf⟩⟩
theorem Jfw.later {W W':World} {X Bs Bt Bf:Nat} {L:List Va} {cs:List Ce} {A:Option Addr} {cap:Nat} (h:Jfw W X Bs Bt Bf L cs A cap) (hb:Below W.heap.size W W'):Jfw W' X Bs Bt Bf L cs A cap:=by
 obtain⟨c0,c1,c2,c3,s,k,⟨c,f⟩⟩:=h;exact⟨Ja hb c0,Ja hb c1,Ja hb c2,Ja hb c3,s.bel hb,k.bel hb,⟨c,f.bel hb⟩⟩
theorem Jcm (op n:Int) (w:World):Calls Tryz.prog 21 #[.int .i64 op,.int .i32 n] w fun r w'=>(∃g,r = .returned (.slice (some ⟨g,0,none⟩) 1 1)/\J3 w' [(op,n)] (some ⟨g,0,none⟩) 1)/\Below w.heap.size w w':=by
 refine(Jak op n w).mono ?_;rintro r w' ⟨⟨rfl,ae⟩,hb⟩;exact⟨⟨_,rfl,J3.one ae⟩,hb⟩
theorem Jl7 (l1 l2:List (Int×Int)) (A1:Option Addr) (c1:Nat) (A2:Option Addr) (c2:Nat) (w:World) (t:TypeId) (h1:J3 w l1 A1 c1) (h2:J3 w l2 A2 c2) (hl:l1.length+l2.length<=1000000) :
  Calls Tryz.prog 20 #[.slice (some ⟨w.heap.size,0,none⟩) 2 2] (w.alloc (.cells #[.slice A1 l1.length c1,.slice A2 l2.length c2] t)) (Jci w (l1 ++ l2)):=by
 have h:=Jc0 [⟨l1,A1,c1⟩,⟨l2,A2,c2⟩] (some ⟨w.heap.size,0,none⟩) 2 (w.alloc (.cells #[.slice A1 l1.length c1,.slice A2 l2.length c2] t))
  (Jan rfl fun x hx=>by
   simp only [List.mem_cons,List.not_mem_nil,or_false] at hx
   rcases hx with rfl|rfl
   ·exact h1
   ·exact h2)
  Gj Ul
 rw [show Qu [⟨l1,A1,c1⟩,⟨l2,A2,c2⟩]=l1 ++ l2 by simp [Qu]] at h;exact h.mono fun r w' hc=>hc.at.less (Jc (Nt) _)
theorem Jxf (l1 l2 l3:List (Int×Int)) (A1:Option Addr) (c1:Nat) (A2:Option Addr) (c2:Nat) (A3:Option Addr) (c3:Nat) (w:World) (t:TypeId) (h1:J3 w l1 A1 c1) (h2:J3 w l2 A2 c2) (h3:J3 w l3 A3 c3) (hl:l1.length+l2.length+l3.length<=1000000) :
  Calls Tryz.prog 20 #[.slice (some ⟨w.heap.size,0,none⟩) 3 3] (w.alloc (.cells #[.slice A1 l1.length c1,.slice A2 l2.length c2,.slice A3 l3.length c3] t)) (Jci w (l1 ++ l2 ++ l3)):=by
 have h:=Jc0 [⟨l1,A1,c1⟩,⟨l2,A2,c2⟩,⟨l3,A3,c3⟩] (some ⟨w.heap.size,0,none⟩) 3 (w.alloc (.cells #[.slice A1 l1.length c1,.slice A2 l2.length c2,.slice A3 l3.length c3] t))
  (Jan rfl fun x hx=>by
   simp only [List.mem_cons,List.not_mem_nil,or_false] at hx
   rcases hx with rfl|rfl|rfl
   ·exact h1
   ·exact h2
   ·exact h3)
  Gj Ul
 rw [show Qu [⟨l1,A1,c1⟩,⟨l2,A2,c2⟩,⟨l3,A3,c3⟩]=l1 ++ l2 ++ l3 by simp [Qu]] at h;exact h.mono fun r w' hc=>hc.at.less (Jc (Nt) _)
def Jme:Value:= .agg #[.int .i64 0,.int .i64 0,.int .i64 0,.int .i64 0,.int .i64 0]
theorem Jrb (p:Pr) (a:PrA) (w:World) (hg:Ql w) (hp:Kr w p a) (aw:Q4 p) (n1:p.ins.length<=1000000) (n2:p.outs.length<=1000000) (n3:p.locals.length<=1000000) (n4:p.eqs.length<=1000000) (hf:(Kf p).2≠(0,0,0)) :
  Calls Tryz.prog 8 #[prV p a] w fun r w'=>r = .returned (.tuple #[.slice none 0 0,Jme,fV (Kf p).2])/\Below w.heap.size w w':=by
 have ah:=fun W h=>Jf8 p a W (hg.later h) (hp.later h) aw n1 n2 n3 n4
 have ss:(Kf p).1 = []:=by
  rcases Je5 p with ⟨h1,h2⟩|⟨h1,h2,h3⟩
  ·exact h2
  ·rw [h3] at hf;exact absurd rfl hf
 have aS:((Kf p).2.1 == 0 && (Kf p).2.2.1 == 0 && (Kf p).2.2.2 == 0)=false:=by
  exact Ub9
 have dp:∀w,(Op.equalIn 10000 34 (.agg #[.int .i64 (Kf p).2.1,.int .i64 (Kf p).2.2.1,.int .i64 (Kf p).2.2.2]) (.agg #[.int .i64 0,.int .i64 0,.int .i64 0])).run Tryz.prog w = .ok false w:=fun w=>by rw [Zr,aS]
 have fM:Tryz.prog.eqGuardType Tryz.prog.depth 34=false:=Ug;clear hf aS;rw [ss] at ah;obtain⟨A1,c1,A2,c2,A3,c3,A4,c4⟩:=a;unfold prV fV at *;dsimp only at *;generalize (Kf p).2.1=k1 at *;generalize (Kf p).2.2.1=k2 at *;generalize (Kf p).2.2.2=k3 at *;clear hg hp aw;unfold Jme
 go_enter Tryz.func8,Tryz.ntmps8
 go_wp2_with (first|(go_at_call 18;refine(ah _ Jb).mono ?_;rintro r wa ⟨⟨v,rfl,ae⟩,aA⟩;obtain⟨Ac,cc,rfl,oS,nx⟩:=Jv ae;have aW:=Jg aA;have bS:=Jf aA;have cN:w.heap.size+3<=wa.heap.size:=Ut;have dG:=lt0 w wa;have aX:=ltA w 1 wa;have eJ:w.heap.size+1+1<wa.heap.size:=Ua))
 refine Jo fun W0 ag=>?_;have ax:=Nd w W0 Uo;have aQ:=Nd wa W0 Uo;have g0:=Na W0 (w.heap.size+1) 0 0 (Ja aQ Udi);have f0:=Nc W0 (w.heap.size+1) 0 ((Jf aQ _ _ aX).trans ((bS _ _ Ul).trans Uq));have g1:=Na W0 (w.heap.size+1) 1 0 (Ja aQ Udi);have f1:=Nc W0 (w.heap.size+1) 1 ((Jf aQ _ _ aX).trans ((bS _ _ Ul).trans Uq));have g2:=Na W0 (w.heap.size+1) 2 0 (Ja aQ Udi);have f2:=Nc W0 (w.heap.size+1) 2 ((Jf aQ _ _ aX).trans ((bS _ _ Ul).trans Uq));have g3:=Na W0 (w.heap.size+1) 3 0 (Ja aQ Udi);have f3:=Nc W0 (w.heap.size+1) 3 ((Jf aQ _ _ aX).trans ((bS _ _ Ul).trans Uq));have g4:=Na W0 (w.heap.size+1) 4 0 (Ja aQ Udi);have f4:=Nc W0 (w.heap.size+1) 4 ((Jf aQ _ _ aX).trans ((bS _ _ Ul).trans Uq));have d0:=Na W0 (w.heap.size+1+1) 0 0 (Ja aQ Udi);have e0:=Nc W0 (w.heap.size+1+1) 0 ((Jf aQ _ _ eJ).trans ((bS _ _ Ul).trans Uq));have q0:=Na W0 wa.heap.size 0 k1 Uc;have d1:=Na W0 (w.heap.size+1+1) 1 0 (Ja aQ Udi);have e1:=Nc W0 (w.heap.size+1+1) 1 ((Jf aQ _ _ eJ).trans ((bS _ _ Ul).trans Uq));have q1:=Na W0 wa.heap.size 1 k2 Uc;have d2:=Na W0 (w.heap.size+1+1) 2 0 (Ja aQ Udi);have e2:=Nc W0 (w.heap.size+1+1) 2 ((Jf aQ _ _ eJ).trans ((bS _ _ Ul).trans Uq));have q2:=Na W0 wa.heap.size 2 k3 Uc;clear ag aW bS aA aQ ae ah oS nx
 have bW:∀(w':World) (b o:Nat) (u:Value),b≠wa.heap.size->w'.cell? ⟨wa.heap.size,0,none⟩=some (.int .i64 k1)/\w'.cell? ⟨wa.heap.size,1,none⟩=some (.int .i64 k2)/\w'.cell? ⟨wa.heap.size,2,none⟩=some (.int .i64 k3)->(w'.setCell ⟨b,o,none⟩ u).cell? ⟨wa.heap.size,0,none⟩=some (.int .i64 k1)/\(w'.setCell ⟨b,o,none⟩ u).cell? ⟨wa.heap.size,1,none⟩=some (.int .i64 k2)/\(w'.setCell ⟨b,o,none⟩ u).cell? ⟨wa.heap.size,2,none⟩=some (.int .i64 k3):=fun w' b o u hb ⟨h1,h2,h3⟩=>
  ⟨(World.cell?_setCell_other _ _ _ _ Lf).trans h1,(World.cell?_setCell_other _ _ _ _ Lf).trans h2,(World.cell?_setCell_other _ _ _ _ Lf).trans h3⟩
 have gQ:=Nf bW;have oT:∀w':World,w'.cell? ⟨wa.heap.size,0,none⟩=some (.int .i64 k1)/\w'.cell? ⟨wa.heap.size,1,none⟩=some (.int .i64 k2)/\w'.cell? ⟨wa.heap.size,2,none⟩=some (.int .i64 k3)->w'.drew.cell? ⟨wa.heap.size,0,none⟩=some (.int .i64 k1)/\w'.drew.cell? ⟨wa.heap.size,1,none⟩=some (.int .i64 k2)/\w'.drew.cell? ⟨wa.heap.size,2,none⟩=some (.int .i64 k3):=fun _ h=>h;have HD:=Nf oT;clear bW oT;have ar:W0.drew.cell? ⟨wa.heap.size,0,none⟩=some (.int .i64 k1)/\W0.drew.cell? ⟨wa.heap.size,1,none⟩=some (.int .i64 k2)/\W0.drew.cell? ⟨wa.heap.size,2,none⟩=some (.int .i64 k3):=⟨q0,q1,q2⟩;refine Kd (fun w'=>w'.cell? ⟨wa.heap.size,0,none⟩=some (.int .i64 k1)/\w'.cell? ⟨wa.heap.size,1,none⟩=some (.int .i64 k2)/\w'.cell? ⟨wa.heap.size,2,none⟩=some (.int .i64 k3)) 4 1 Ug Gd ?_;simp only [List.size_toArray,Nl,Nm,Nat.zero_add,Nat.reduceAdd];refine Ji 0 ar ?_;refine Ji 1 ar ?_;refine Ji 2 ar ?_;refine Kb 3 ?_;refine Jj fun K hK=>?_;go_simp;have oy:=HD.out _ (gQ.out _ (w.heap.size+1) 4 (.int .i64 0) Ua (gQ.out _ (w.heap.size+1) 3 (.int .i64 0) Ua (gQ.out _ (w.heap.size+1) 2 (.int .i64 0) Ua (gQ.out _ (w.heap.size+1) 1 (.int .i64 0) Ua (gQ.out W0 (w.heap.size+1) 0 (.int .i64 0) Ua ⟨q0,q1,q2⟩)))));refine hK _ _ ⟨oy,Kh Ug ?_⟩;clear hK K
 try simp only [Act.put,sa1,sa2,sa3]
 refine Jgr fun W1 bt=>?_;have ac:=Nd w W1 (by rw [bt];exact Jh (Jdj _ _ _ _ _ ax Ua))
 obtain⟨r0,r1,r2,r3,r4⟩:=Jsy (W:=W0) (.int .i64 0) (.int .i64 0) (.int .i64 0) (.int .i64 0) (.int .i64 0) g0 g1 g2 g3 g4;have R:∀b o,W1.cell? ⟨b,o,none⟩=(((((W0.setCell ⟨w.heap.size+1,0,none⟩ (.int .i64 0)).setCell ⟨w.heap.size+1,1,none⟩ (.int .i64 0)).setCell ⟨w.heap.size+1,2,none⟩ (.int .i64 0)).setCell ⟨w.heap.size+1,3,none⟩ (.int .i64 0)).setCell ⟨w.heap.size+1,4,none⟩ (.int .i64 0)).cell? ⟨b,o,none⟩:=fun b o=>by rw [bt,Xi]
 have RF:∀p,W1.frozen? p=W0.frozen? p:=fun p=>by
  rw [bt,Jdn];exact Ji7 (W:=W0) (b:=w.heap.size+1) _ _ _ _ _ p
 have s0:=(R _ _).trans r0;have s1:=(R _ _).trans r1;have s2:=(R _ _).trans r2;have s3:=(R _ _).trans r3;have s4:=(R _ _).trans r4;have t0:=((R _ _).trans (Q8 _ _ _ _ _ Ua)).trans d0;have t1:=((R _ _).trans (Q8 _ _ _ _ _ Ua)).trans d1;have t2:=((R _ _).trans (Q8 _ _ _ _ _ Ua)).trans d2;have z0:=(RF _).trans e0;have z1:=(RF _).trans e1;have z2:=(RF _).trans e2;clear bt R RF r0 r1 r2 r3 r4 oy ar q0 q1 q2 g0 g1 g2 g3 g4 f0 f1 f2 f3 f4 d0 d1 d2 e0 e1 e2 gQ HD;refine Qx 4 ?_;refine Jj fun K hK=>?_;go_simp;refine hK _ _ ?_;clear hK K
 try simp only [Act.put,sa1,sa2,sa3]
 refine Ki Ug ?_;refine Zc fun W2 gi=>?_;obtain⟨r0,r1,r2⟩:=Jp5 (W:=W1) (.int .i64 k1) (.int .i64 k2) (.int .i64 k3) t0 t1 t2;have R:∀b o,W2.cell? ⟨b,o,none⟩=(((W1.setCell ⟨w.heap.size+1+1,0,none⟩ (.int .i64 k1)).setCell ⟨w.heap.size+1+1,1,none⟩ (.int .i64 k2)).setCell ⟨w.heap.size+1+1,2,none⟩ (.int .i64 k3)).cell? ⟨b,o,none⟩:=fun b o=>by rw [gi]
 have aq:=Nd w W2 Udu;have x0:=(R _ _).trans r0;have x1:=(R _ _).trans r1;have x2:=(R _ _).trans r2;have y0:=((R _ _).trans (Qy _ _ _ Ua)).trans s0;have y1:=((R _ _).trans (Qy _ _ _ Ua)).trans s1;have y2:=((R _ _).trans (Qy _ _ _ Ua)).trans s2;have y3:=((R _ _).trans (Qy _ _ _ Ua)).trans s3;have y4:=((R _ _).trans (Qy _ _ _ Ua)).trans s4;clear gi R r0 r1 r2 s0 s1 s2 s3 s4 t0 t1 t2 z0 z1 z2
 go_wp2_with fail
 exact Nv (v:= .tuple #[.slice none 0 0,.agg #[.int .i64 0,.int .i64 0,.int .i64 0,.int .i64 0,.int .i64 0],.agg #[.int .i64 k1,.int .i64 k2,.int .i64 k3]]) G1 rfl ⟨rfl,aq⟩
end Go.Proofs.YtknfcamdfdfoeaaGreatDoor
namespace Go.Proofs.YtknfcamdfdfoeaaGreatDoor
open Go.RowKit Go.Sort
section
variable {P:Program} {ops:Array Oper} {Q:Exit->Act->World->Prop} {md:Region.Mode} {S:World->Prop}
theorem Jfe {n g i j:Nat} {oi oj:Oper} {f:Nat} {listed:Array Bool} {a:Act} {w:World} (hr:Region.ready md ops listed = [i,j]) (hi:ops[i]?=some oi) (hj:ops[j]?=some oj) (hg:oi.guard=none) (hgj:oj.guard=none)
  (h:oi.wp P a w (fun a' w'=>S w'/\Jab P md ops Q S n g f (listed.setIfInBounds i true) a' w') Q) (h2:oj.wp P a w (fun a' w'=>S w'/\Jab P md ops Q S n g f (listed.setIfInBounds j true) a' w') Q):Jab P md ops Q S n g (f+1) listed a w:=by
 refine⟨fun h0=>D8,fun k hk=>?_⟩;rw [hr] at hk;simp only [List.mem_cons,List.not_mem_nil,or_false] at hk
 rcases hk with rfl|rfl
 ·exact Ucr
 ·exact Uby
theorem Jrr {n g i j l:Nat} {oi oj ol:Oper} {f:Nat} {listed:Array Bool} {a:Act} {w:World} (hr:Region.ready md ops listed = [i,j,l]) (hi:ops[i]?=some oi) (hj:ops[j]?=some oj) (hl:ops[l]?=some ol) (hg:oi.guard=none) (hgj:oj.guard=none) (eS:ol.guard=none)
  (h:oi.wp P a w (fun a' w'=>S w'/\Jab P md ops Q S n g f (listed.setIfInBounds i true) a' w') Q) (h2:oj.wp P a w (fun a' w'=>S w'/\Jab P md ops Q S n g f (listed.setIfInBounds j true) a' w') Q) (h3:ol.wp P a w (fun a' w'=>S w'/\Jab P md ops Q S n g f (listed.setIfInBounds l true) a' w') Q):Jab P md ops Q S n g (f+1) listed a w:=by
 refine⟨fun h0=>D8,fun k hk=>?_⟩;rw [hr] at hk;simp only [List.mem_cons,List.not_mem_nil,or_false] at hk
 rcases hk with rfl|rfl|rfl
 ·exact Ucr
 ·exact Uby
 ·unfold wpOp;have hw:Region.wanted ol (yielded ops a.tmps)=true:=by simp [Region.wanted,eS]
  simp only [hl,hw,if_true];exact .inl h3
end
end Go.Proofs.YtknfcamdfdfoeaaGreatDoor
namespace Go.Proofs.YtknfcamdfdfoeaaGreatDoor
open Go.RowKit
def leB:Nat->Nat->List Int
 | 0,_=>[]
 | w+1,n=>((n % 256:Nat):Int) :: leB w (n / 256)
theorem Y4:∀w n,(leB w n).length=w
 | 0,_=>rfl
 | w+1,n=>by rw [leB,Nl,Y4 w]
def Xh (a:Int):Nat:=(a % 4294967296).toNat
theorem Jne (a:Int):Xh a<4294967296:=by unfold Xh;omega
def Jdm (i:Int×Int):List Int:=i.1 :: leB (Qp i.1).toNat (Xh i.2)
def Ja7 (c:List (Int×Int)):List Int:=c.flatMap Jdm
def Je9 (l:List Int):List Int:=l.flatMap fun v=>leB 4 (Xh v)
def Jcs (x:List Int):List Int:=leB 2 x.length ++ x
theorem Jlt (op:Int):0<=Qp op/\Qp op<=4:=by
  unfold Qp;repeat' split
  all_goals omega
theorem Jnq (i:Int×Int):(Jdm i).length<=5:=by
 unfold Jdm;have:=Jlt i.1;rw [Nl,Y4];omega
theorem Jit (c:List (Int×Int)):(Ja7 c).length<=5 * c.length:=by
 unfold Ja7
 induction c with
 | nil=>simp
 | cons i c ih=>
  have:=Jnq i;rw [List.flatMap_cons,Nk,Nl];omega
theorem Jsn (l:List Int):(Je9 l).length=4 * l.length:=by
 unfold Je9
 induction l with
 | nil=>simp
 | cons i c ih=>rw [List.flatMap_cons,Nk,Nl,Y4];omega
theorem Js9 (c:List (Int×Int)) (i:Int×Int):Ja7 (c ++ [i])=Ja7 c ++ Jdm i:=by unfold Ja7;simp
theorem Kcc (l:List Int) (v:Int):Je9 (l ++ [v])=Je9 l ++ leB 4 (Xh v):=by unfold Je9;simp
end Go.Proofs.YtknfcamdfdfoeaaGreatDoor
namespace Go.Proofs.YtknfcamdfdfoeaaGreatDoor
open Go.RowKit Go.Sort
theorem Jul (op:Int):((op == 1)=false/\(op == 2)=false/\(op == 3)=false/\(op == 4)=false/\(op == 5)=false/\(op == 6)=false/\(op == 7)=false/\(op == 8)=false/\(op == 9)=false/\(op == 10)=false/\(op == 11)=false)\/
  op=1\/op=2\/op=3\/op=4\/op=5\/op=6\/op=7\/op=8\/op=9\/op=10\/op=11:=by
 simp only [beq_eq_false_iff_ne,ne_eq];omega
theorem Jdz (op:Int) (w:World):Calls Tryz.prog 122 #[.int .i64 op] w fun r w'=>r = .returned (.int .i64 (Qp op))/\Below w.heap.size w w':=by
 by_cases h1:op=1
 ·subst h1;exact Uc6
 by_cases bM:op=10
 ·subst bM;exact Uc6
 by_cases gh:op=11
 ·subst gh;exact Uc6
 have t1:(op == 1)=false:=Lw;have t10:(op == 10)=false:=Fb;have t11:(op == 11)=false:=Sy
 by_cases hg:1<op
 ·by_cases hl:op<10
  ·have hv:Qp op=1:=by unfold Qp;rw [if_neg h1,if_neg Ua,if_pos ⟨hg,hl⟩]
   exact Ubz
  ·have hv:Qp op=0:=by unfold Qp;rw [if_neg h1,if_neg Ua,if_neg (fun h=>hl h.2)]
   exact Ubz
 ·have hv:Qp op=0:=by unfold Qp;rw [if_neg h1,if_neg Ua,if_neg (fun h=>hg h.1)]
  exact Ubz
def Jbu (op:Int):Int:=if op=8 then 2 else if op=9 then 16 else if op=10\/op=11 then 65535 else 255
theorem Jm1 (op:Int) (w:World):Calls Tryz.prog 123 #[.int .i64 op] w fun r w'=>r = .returned (.int .i32 (Jbu op))/\w'=w:=by
 by_cases h:op=8\/op=9\/op=10\/op=11
 ·rcases h with rfl|rfl|rfl|rfl
  all_goals
   go_enter Tryz.func123,Tryz.ntmps123
   go_wp2_with fail
   go_ret;exact⟨Jm Ux,rfl⟩
 ·have t8:(op == 8)=false:=Uj;have t9:(op == 9)=false:=Uj;have t10:(op == 10)=false:=Uj;have t11:(op == 11)=false:=Uj;have hv:Jbu op=255:=by unfold Jbu;rw [if_neg Ua,if_neg Ua,if_neg Ua]
  clear h;have HV:=Nf hv;clear hv
  go_enter Tryz.func123,Tryz.ntmps123
  exact Ugk
theorem Jrp (op:Int):(Qp op=0)\/(op=1/\Qp op=4)\/((op=8\/op=9)/\Qp op=1)\/((op=10\/op=11)/\Qp op=2)\/((2<=op/\op<=7)/\Qp op=1):=by
 unfold Qp
 repeat' split
 all_goals omega
theorem Joo {op n:Int} (h1:op=8\/op=9):Qj (op,n)=if n<1\/Jbu op<n then 9 else 0:=by
 rcases h1 with rfl|rfl
 ·simp only [Qj,Qp,Jbu]
  by_cases h:n<1\/2<n
  ·exact Tf
  ·simp [h];omega
 ·simp only [Qj,Qp,Jbu]
  by_cases h:n<1\/16<n
  ·exact Tf
  ·simp [h];omega
theorem Job {op n:Int} (h1:op=10\/op=11\/(2<=op/\op<=7)):Qj (op,n)=if n<0\/Jbu op<n then 10 else 0:=by
 rcases h1 with rfl|rfl|h1
 ·simp [Qj,Qp,Jbu]
 ·simp [Qj,Qp,Jbu]
 ·have hw:Qp op=1:=by unfold Qp;rw [if_neg Ua,if_neg Ua,if_pos Ua]
  have hm:Jbu op=255:=by unfold Jbu;rw [if_neg Ua,if_neg Ua,if_neg Ua]
  unfold Qj;rw [hw,hm];dsimp only;rw [if_neg Ux,if_neg Ux,if_neg (fun h=>Ua),if_neg (fun h=>Ua),if_neg (fun h=>absurd h.1 Ux)];exact Ul
def Jby (op n:Int) (w:World):Prop:=Calls Tryz.prog 89 #[.agg #[.int .i64 op,.int .i32 n]] w fun r w'=>r = .returned (.int .i64 (Qj (op,n)))/\Below w.heap.size w w'
theorem Jqz (op n:Int) (w:World) (h:Qp op=0):Jby op n w:=by
 unfold Jby
 have cO:=fun W=>Jdz op W;have hv:Qj (op,n)=9:=by unfold Qj;rw [if_pos h]
 exact Ufz
theorem Jqo (op n:Int) (w:World) (h:Qp op=4):Jby op n w:=by
 unfold Jby
 have cO:=fun W=>Jdz op W;have hv:Qj (op,n)=0:=by unfold Qj;rw [if_neg (by rw [h];decide),if_pos h]
 exact Ufz
theorem Jpc (op n:Int) (w:World) (h1:op=8\/op=9):Jby op n w:=by
 unfold Jby
 have cO:=fun W=>Jdz op W;have fp:=fun W=>Jm1 op W;have h:Qp op=1:=by rcases h1 with rfl|rfl <;> rfl
 have hr:=Joo (n:=n) h1;rw [h] at cO
 have tn:((op == 8)=true/\(op == 9)=false)\/((op == 8)=false/\(op == 9)=true):=by
  rcases h1 with rfl|rfl
  ·exact .inl ⟨rfl,rfl⟩
  ·exact .inr ⟨rfl,rfl⟩
 have eU:1<=Jbu op:=by rcases h1 with rfl|rfl <;> decide
 clear h h1;generalize Jbu op=m at *
 by_cases c1:n<1
 ·have hv:Qj (op,n)=9:=by rw [hr,if_pos (.inl c1)]
  have d1:decide (n<1)=true:=Bi;clear hr c1 eU;exact Ufs
 have d1:decide (n<1)=false:=Bi
 by_cases c2:m<n
 ·have hv:Qj (op,n)=9:=by rw [hr,if_pos (.inr c2)]
  have d2:decide (m<n)=true:=by simpa using c2
  clear hr c1 c2 eU;exact Ufs
 ·have hv:Qj (op,n)=0:=by rw [hr,if_neg Ua]
  have d2:decide (m<n)=false:=by simpa using c2
  have d0:decide (n<0)=false:=Uj;clear hr c1 c2 eU;have HV:=Nf hv;clear hv
  rcases tn with ⟨t8,t9⟩|⟨t8,t9⟩
  all_goals
   go_enter Tryz.func89,Tryz.ntmps89
   go_wp2_with (first|(go_at_call 122;refine mo (cO _) fun w1 ac ak af bV=>?_;(try simp at af)))
   go_quiet ((go_at_call 123;exact Calls.quiet_of_same (fp _)))
   go_wp2_with fail
   refine Jo fun W1 bt=>?_;have q0:=Na W1 w.heap.size 0 op Lj;have q1:=Nb W1 w.heap.size 1 (.int .i32 n) Lj;have aC:=Nd w W1 G4;clear bt
   go_quiet ((go_at_call 123;exact Calls.quiet_of_same (fp _)))
   go_wp2_with fail
   go_ret;exact⟨Jm HV.out.symm,Jb⟩
theorem Jhs (op n:Int) (w:World) (h1:op=10\/op=11\/(2<=op/\op<=7)):Jby op n w:=by
 unfold Jby
 have cO:=fun W=>Jdz op W;have fp:=fun W=>Jm1 op W;have t8:(op == 8)=false:=Uj;have t9:(op == 9)=false:=Uj
 have dz:(Qp op == 0)=false/\(Qp op == 4)=false:=by
  have:Qp op=2\/Qp op=1:=by
   unfold Qp
   repeat' split
   all_goals omega
  rcases this with h|h <;> rw [h] <;> decide
 obtain⟨k0,k4⟩:=dz;have hr:=Job (n:=n) h1;clear h1;generalize Qp op=k at *;generalize Jbu op=m at *
 by_cases c1:n<0
 ·have hv:Qj (op,n)=10:=by rw [hr,if_pos (.inl c1)]
  have d1:decide (n<0)=true:=Bi;clear hr c1;have HV:=Nf hv;clear hv
  go_enter Tryz.func89,Tryz.ntmps89
  go_wp2_with (first|(go_at_call 122;refine mo (cO _) fun w1 ac ak af bV=>?_;(try simp at af)))
  go_quiet ((go_at_call 123;exact Calls.quiet_of_same (fp _)))
  go_wp2_with fail
  refine Jo fun W1 bt=>?_;have q0:=Na W1 w.heap.size 0 op Lj;have q1:=Nb W1 w.heap.size 1 (.int .i32 n) Lj;have aC:=Nd w W1 G4;clear bt
  go_quiet ((go_at_call 123;exact Calls.quiet_of_same (fp _)))
  go_wp2_with fail
  exact Udf
 have d1:decide (n<0)=false:=Bi
 by_cases c2:m<n
 ·have hv:Qj (op,n)=10:=by rw [hr,if_pos (.inr c2)]
  have d2:decide (m<n)=true:=by simpa using c2
  exact Uff
 ·have hv:Qj (op,n)=0:=by rw [hr,if_neg Ua]
  have d2:decide (m<n)=false:=by simpa using c2
  exact Uff
theorem Jlr (op n:Int) (w:World):Jby op n w:=by
 rcases Jrp op with h|⟨h1,h⟩|⟨h1,h⟩|⟨h1,h⟩|⟨h1,h⟩
 ·exact Jqz op n w h
 ·exact Jqo op n w h
 ·exact Jpc op n w h1
 ·exact Jhs op n w Ua
 ·exact Jhs op n w Ua
theorem Jgl:(Tryz.prog.info? 5).map (fun i=>(i.zero,i.size,i.bytes))=some (some (.int .u8 0),1,1):=Ug
theorem Jxv:(Tryz.prog.info? 40).map (fun i=>(i.zero,i.size,i.bytes))=some (some (.int .u32 0),1,4):=Ug
def Qc (w:World) (xs:List Value) (n:Nat) (A:Option Addr) (cap:Nat):Prop:=n<=cap/\cap<=maxLen/\X6 w A n 1 xs
theorem Qc.later {w w':World} {xs:List Value} {n:Nat} {A:Option Addr} {cap:Nat} (h:Qc w xs n A cap) (hb:Below w.heap.size w w'):Qc w' xs n A cap:=⟨h.1,h.2.1,Jds h.2.2 hb⟩
theorem Qc.of_own {w:World} {base:Nat} {e:TypeId} {xs:List Value} {n:Nat} {v:Value} (h:w.ownsRow base e 1 v n xs):∃A cap,v = .slice A n cap/\Qc w xs n A cap:=by
 obtain⟨A,cap,rfl,h1,h2⟩:=Jv h;refine⟨A,cap,rfl,h1,h2,h.1,fun hm=>?_⟩;exact Uct
theorem Qc.nil (w:World):Qc w [] 0 none 0:=⟨Ns _,U2,rfl,fun h=>absurd h Ua⟩
theorem Qc.get {w:World} {xs:List Value} {n:Nat} {A:Option Addr} {cap:Nat} (h:Qc w xs n A cap) {k:Nat} {u:Value} (hk:xs[k]?=some u):∃b off,A=some ⟨b,off,none⟩/\b<w.heap.size/\w.cell? ⟨b,off+k,none⟩=some u:=by
 have hl:xs.length=n * 1:=h.2.2.1;have am:=(Nh hk).1;obtain⟨b,off,hA,hc⟩:=h.2.2.2 Ua;exact⟨b,off,hA,Nu (hc k u hk),hc k u hk⟩
theorem Qc.ads {w:World} {xs:List Value} {n:Nat} {A:Option Addr} {cap:Nat} (h:Qc w xs n A cap) (W:World) (hb:Below w.heap.size w W) (h0:0<xs.length):∃ad,A=some ad/\∀(j:Nat) (v:Value),xs[j]?=some v->W.cell? (ad.add j)=some v:=by
 have hl:xs.length=n * 1:=h.2.2.1;obtain⟨b,off,hA,hc⟩:=(h.later hb).2.2.2 Ua;exact⟨_,hA,fun j u hj=>by rw [show(⟨b,off,none⟩:Addr).add j=⟨b,off+j,none⟩ by unfold Addr.add;split <;> simp_all];exact hc j u hj⟩
def byU (l:List Int):List Value:=l.map (.int .u8)
def wdU (l:List Nat):List Value:=l.map fun(x:Nat)=>Value.int .u32 (Int.ofNat x)
def nuI (l:List Int):List Value:=l.map (.int .i32)
theorem Ji3 (l:List Int):(byU l).length=l.length:=by unfold byU;simp
theorem Jeu (a b:List Int):byU (a ++ b)=byU a ++ byU b:=by unfold byU;simp
theorem Jgm (l:List Int):∀u∈byU l,u.oneCell'=true:=by
 intro u hu;unfold byU at hu;obtain⟨x,_,rfl⟩:=List.mem_map.1 hu;exact Gd
theorem Jyi (a b:List Nat):wdU (a ++ b)=wdU a ++ wdU b:=by unfold wdU;simp
theorem Jyh {l:List Nat} {k x:Nat} (h:l[k]?=some x):(wdU l)[k]?=some (.int .u32 (x:Int)):=by unfold wdU;rw [List.getElem?_map,h];rfl
theorem Jx3 {l:List Int} {k:Nat} {x:Int} (h:l[k]?=some x):(nuI l)[k]?=some (.int .i32 x):=by unfold nuI;rw [List.getElem?_map,h];rfl
theorem Jgy:∀(k n:Nat),leB (k+1) n=leB k n ++ [((n / 256 ^ k % 256:Nat):Int)]
 | 0,n=>by simp [leB]
 | k+1,n=>by
  rw [leB,Jgy k (n / 256)]
  conv=>rhs;rw [leB]
  rw [List.cons_append,Nat.div_div_eq_div_mul,Nat.pow_succ,Nat.mul_comm 256]
theorem Jgt {w:World} {base g:Nat} {e:TypeId} {xs cur:List Value} {n cap:Nat} (hg:w.heap[g]?=some (.cells (splice cur 0 xs).toArray e (0,0))) (hb:base<=g) (hn:n<=cap) (hc:cap<=maxLen) (hx:xs.length=n) (hl:cur.length=cap) :
  w.ownsRow base e 1 (.slice (some ⟨g,0,none⟩) n cap) n xs:=by
 refine⟨Ua,.inr ⟨g,cap,_,rfl,hb,hg,hn,hc,?_,?_⟩⟩
 ·rw [List.size_toArray,length_splice _ _ _ Ua];omega
 ·unfold splice;rw [List.take_zero,List.nil_append,show(xs ++ cur.drop (0+xs.length)).toArray.toList=xs ++ cur.drop (0+xs.length) from rfl,List.take_append_of_le_length Ua,List.take_of_length_le Ua]
end Go.Proofs.YtknfcamdfdfoeaaGreatDoor
