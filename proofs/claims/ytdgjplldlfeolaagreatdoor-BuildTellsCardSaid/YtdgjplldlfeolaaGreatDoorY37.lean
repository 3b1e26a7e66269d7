/- Lemmas. -/
import Derived.Test.YtdgjplldlfeolaaGreatDoorMac
import Derived.Test.YtdgjplldlfeolaaGreatDoorY36
import Derived.Test.YtdgjplldlfeolaaGreatDoorY10
set_option linter.unusedVariables false
set_option linter.unusedSimpArgs false
set_option maxRecDepth 100000
set_option maxHeartbeats 64000000
namespace Go.Proofs.YtdgjplldlfeolaaGreatDoor
open Go.RowKit Go.Sort Go.Maps Go.ChangeMaps Go.WideMaps
theorem Jwq (l1 l2 l3:List (Int×Int)) (A1:Option Addr) (c1:Nat) (A2:Option Addr) (c2:Nat) (A3:Option Addr) (c3:Nat) (w:World) (t:TypeId) (h1:Kos w l1 A1 c1) (h2:Kos w l2 A2 c2) (h3:Kos w l3 A3 c3) (hl:l1.length+l2.length+l3.length<=1000000) :
  Calls Tryz.prog 102 #[.slice (some ⟨w.heap.size,0,none⟩) 3 3] (w.alloc (.cells #[.slice A1 l1.length c1,.slice A2 l2.length c2,.slice A3 l3.length c3] t)) (X9 w (l1 ++ l2 ++ l3)):=by
 have h:=Jc0 [⟨l1,A1,c1⟩,⟨l2,A2,c2⟩,⟨l3,A3,c3⟩] (some ⟨w.heap.size,0,none⟩) 3 (w.alloc (.cells #[.slice A1 l1.length c1,.slice A2 l2.length c2,.slice A3 l3.length c3] t))
  (Jan rfl fun x hx=>by
   simp only [List.mem_cons,List.not_mem_nil,or_false] at hx
   rcases hx with rfl|rfl|rfl
   ·exact h1
   ·exact h2
   ·exact h3)
  Gh Uh
 rw [show Qu [⟨l1,A1,c1⟩,⟨l2,A2,c2⟩,⟨l3,A3,c3⟩]=l1 ++ l2 ++ l3 by simp [Qu]] at h;exact h.mono fun r w' hc=>hc.less (Jc (Nt) _)
def Jgs (p:Pr) (w:World) (r:Ending) (w':World):Prop:=
 (if 600<(Xs p).length then r = .returned (.tuple #[.slice none 0 0,Jme,fV (4,0,3)])
 else ∃v,r = .returned (.tuple #[v,.agg #[.int .i64 ((Je p).length:Nat),.int .i64 ((Jq p).length:Nat),.int .i64 ((Jq p).length:Nat),.int .i64 (p.ins.length:Nat),.int .i64 (p.outs.length:Nat)],fV (0,0,0)])/\w'.ownsRow w.heap.size 122 2 v (Xs p).length (cdC (Xs p)))/\Below w.heap.size w w'
theorem Qd.lenRun {P:Program} {k e:TypeId} {R:Value->Option (DataW Unit×List MemPlace)} {K V:Type} {ok:K->Prop} {kl:K->Lit} {okv:V->Prop} {vl:V->Lit} {z:V} {w:World} {b n c:Nat} {f:K->Option V}
  (h:Qd P k R ok kl okv vl z w b n f c) {t:TypeId} (ht:P.underlying t=some (.map k e)) (ty:TypeId):(Builtin.len_ #[t] ty #[.map (some b)]).run P w = .ok (.int .i64 c) w:=by
 obtain⟨D,h1,h2,hc,_⟩:=h;rw [h1.len ht ty,hc]
theorem Qd.cellsNo {P:Program} {k:TypeId} {R:Value->Option (DataW Unit×List MemPlace)} {K V:Type} {ok:K->Prop} {kl:K->Lit} {okv:V->Prop} {vl:V->Lit} {z:V} {w:World} {b n c:Nat} {f:K->Option V}
  (h:Qd P k R ok kl okv vl z w b n f c) {o:Nat} {v:Value} (hc:w.cell? ⟨b,o,none⟩=some v):False:=by
 obtain⟨D,⟨es,clock,hh,_⟩,_⟩:=h;simp [World.cell?,hh] at hc
theorem Jt3 (W:World):W.drew.heap=W.heap:=rfl
theorem Jz4 {wz w wa:World} {X Bs n:Nat} {u1 u2 v0 v1 v2 v3 v4 k1 k2 k3:Value} (hX:X≠w.heap.size+1) (x0:wz.cell? ⟨X,0,none⟩=some (.map (some Bs))) (p1:wz.cell? ⟨w.heap.size,1,none⟩=some u1) (p2:wz.cell? ⟨w.heap.size,2,none⟩=some u2)
  (q0:wz.cell? ⟨wa.heap.size,0,none⟩=some k1) (q1:wz.cell? ⟨wa.heap.size,1,none⟩=some k2) (q2:wz.cell? ⟨wa.heap.size,2,none⟩=some k3) (ha:wa.heap.size≠w.heap.size+1) (hw:w.heap.size≠w.heap.size+1)
  (hl:∀w',w'.heap[Bs]?=wz.heap[Bs]?->(Builtin.len_ #[204] 3 #[.map (some Bs)]).run Tryz.prog w' = .ok (.int .i64 (n:Nat)) w') (nB:Bs≠w.heap.size+1) :
  (fun w':World=>w'.cell? ⟨X,0,none⟩=some (.map (some Bs))/\w'.cell? ⟨w.heap.size,1,none⟩=some u1/\w'.cell? ⟨w.heap.size,2,none⟩=some u2/\w'.cell? ⟨wa.heap.size,0,none⟩=some k1/\w'.cell? ⟨wa.heap.size,1,none⟩=some k2/\w'.cell? ⟨wa.heap.size,2,none⟩=some k3/\(Builtin.len_ #[204] 3 #[.map (some Bs)]).run Tryz.prog w' = .ok (.int .i64 (n:Nat)) w')
   (((((wz.setCell ⟨w.heap.size+1,0,none⟩ v0).setCell ⟨w.heap.size+1,1,none⟩ v1).setCell ⟨w.heap.size+1,2,none⟩ v2).setCell ⟨w.heap.size+1,3,none⟩ v3).setCell ⟨w.heap.size+1,4,none⟩ v4).drew:=by
 have hh:(((((wz.setCell ⟨w.heap.size+1,0,none⟩ v0).setCell ⟨w.heap.size+1,1,none⟩ v1).setCell ⟨w.heap.size+1,2,none⟩ v2).setCell ⟨w.heap.size+1,3,none⟩ v3).setCell ⟨w.heap.size+1,4,none⟩ v4).heap[Bs]?=wz.heap[Bs]?:=by
  rw [heap_setCell_other _ _ _ _ nB,heap_setCell_other _ _ _ _ nB,heap_setCell_other _ _ _ _ nB,heap_setCell_other _ _ _ _ nB,heap_setCell_other _ _ _ _ nB]
 refine⟨?_,?_,?_,?_,?_,?_,?_⟩
 ·rw [Xi,Q8 _ _ _ _ _ hX];exact x0
 ·rw [Xi,Q8 _ _ _ _ _ hw];exact p1
 ·rw [Xi,Q8 _ _ _ _ _ hw];exact p2
 ·rw [Xi,Q8 _ _ _ _ _ ha];exact q0
 ·rw [Xi,Q8 _ _ _ _ _ ha];exact q1
 ·rw [Xi,Q8 _ _ _ _ _ ha];exact q2
 ·refine hl _ ?_;rw [Jt3];exact hh
structure Jzs (w W wz:World) (p:Pr) (A1 A2:Option Addr) (c1 c2:Nat) (wa:World) (X Bs:Nat):Prop where
 bel:Below w.heap.size w wz
 z1:w.heap.size+3<=wz.heap.size
 z2:wa.heap.size<wz.heap.size
 g:wz.cell? ⟨w.heap.size+1,0,none⟩=some (.int .i64 0)/\wz.cell? ⟨w.heap.size+1,1,none⟩=some (.int .i64 0)/\wz.cell? ⟨w.heap.size+1,2,none⟩=some (.int .i64 0)/\wz.cell? ⟨w.heap.size+1,3,none⟩=some (.int .i64 0)/\wz.cell? ⟨w.heap.size+1,4,none⟩=some (.int .i64 0)
 d:wz.cell? ⟨w.heap.size+1+1,0,none⟩=some (.int .i64 0)/\wz.cell? ⟨w.heap.size+1+1,1,none⟩=some (.int .i64 0)/\wz.cell? ⟨w.heap.size+1+1,2,none⟩=some (.int .i64 0)
 q:wz.cell? ⟨wa.heap.size,0,none⟩=some (.int .i64 0)/\wz.cell? ⟨wa.heap.size,1,none⟩=some (.int .i64 0)/\wz.cell? ⟨wa.heap.size,2,none⟩=some (.int .i64 0)
 fg:∀o,(o=0\/o=1\/o=2\/o=3\/o=4)->wz.frozen? ⟨w.heap.size+1,o,none⟩=false
 fd:∀o,(o=0\/o=1\/o=2)->wz.frozen? ⟨w.heap.size+1+1,o,none⟩=false
 p1:wz.cell? ⟨w.heap.size,1,none⟩=some (.slice A1 p.ins.length c1)
 p2:wz.cell? ⟨w.heap.size,2,none⟩=some (.slice A2 p.outs.length c2)
 x0:wz.cell? ⟨X,0,none⟩=some (.map (some Bs))
 len:∀w',w'.heap[Bs]?=wz.heap[Bs]?->(Builtin.len_ #[204] 3 #[.map (some Bs)]).run Tryz.prog w' = .ok (.int .i64 ((Je p).length:Nat)) w'
 nB:Bs≠w.heap.size+1
theorem Jqu {n:Int} (h:I64 n):IntKind.i64.wrap n=n:=by
 unfold I64 at h;exact IntWalk.i64_in _ h
theorem Jar (W:World):Kos W [] none 0:=⟨Ns _,Uo,⟨rfl,fun h=>absurd h Uh⟩⟩
theorem Jo3 (p:Pr) (a:PrA) (w:World) (hg:Ql w) (hp:Kr w p a) (aw:Ke5 p) (n1:p.ins.length<=1000000) (n2:p.outs.length<=1000000) (n3:p.locals.length<=1000000) (n4:p.eqs.length<=1000000) (hS:Ks p=(0,0,0)) (dP:¬16<(Jq p).length) :
  Calls Tryz.prog 72 #[prV p a] w (Jgs p w):=by
 have bO:=Jff hS;have ah:=fun W h=>Jf8 p a W (hg.later h) (hp.later h) aw n1 n2 n3 n4;have eL:=fun W h=>Jfr p a W (hg.later h) (hp.later h) aw n1 n2 n3 n4;have dY:=Yg bO.order;rw [show Kf p=(Jq p,(0,0,0)) by unfold Kf;rw [if_pos hS,if_neg dP]] at ah
 have ny:∀v∈Je p,okS v.name/\okC (v.ck,v.cn):=fun v hv=>by
  have h:=bO.vars v hv;exact⟨by unfold okS;have:=h.name;unfold maxLen;omega,by unfold I64;have:=h.ck;dsimp only;omega,by have:=h.cn;unfold maxLen;dsimp only;omega⟩
 have nz:∀c∈Jq p,okC (c.ck,c.cn):=fun c hc=>by
  have h:=bO.cells hc;exact⟨by unfold I64;have:=h.1;dsimp only;omega,by have:=h.2.1;unfold maxLen;dsimp only;omega⟩
 have xL:=fun A cap W (h:Below w.heap.size w W) (hc:Jbh W (Jq p) A cap)=>Jxs p a (Jq p) A cap W (hp.later h) hc n1 n2 n3 Ua ny bO.nodup nz;have dp:∀w,(Op.equalIn 10000 32 (.agg #[.int .i64 0,.int .i64 0,.int .i64 0]) (.agg #[.int .i64 0,.int .i64 0,.int .i64 0])).run Tryz.prog w = .ok true w:=fun w=>So;have fM:Tryz.prog.eqGuardType Tryz.prog.depth 32=false:=Ue;have oU:=Nf hp.ins;have kJ:=Nf hp.outs;have qO:=Nf hp.eqs;have bI:=hp.ins.len;have aD:=hp.outs.len;have cG:=hp.eqs.len;unfold maxLen at bI aD cG;have cC:=Nf bO;have oV:=Nf nz;have nA:=Nf ny;have lN:=Nf dY;obtain⟨A1,c1,A2,c2,A3,c3,A4,c4⟩:=a;unfold prV fV at *;dsimp only at *;obtain⟨tO,tP⟩:=bI;obtain⟨tQ,tR⟩:=aD;obtain⟨fT,fU⟩:=cG;clear hS hg hp aw bO nz ny dY
 go_enter Tryz.func72,Tryz.ntmps72
 go_wp2_with (first
  | (go_at_call 100;refine(ah _ Jb).mono ?_;rintro r wa ⟨⟨v,rfl,ae⟩,aA⟩;obtain⟨Ac,cc,rfl,lO⟩:=Jbh.of_own ae;clear ae;have aW:=Jg aA;have bS:=Jf aA;have cN:w.heap.size+3<=wa.heap.size:=U3;have dG:=lt0 w wa;have aX:=ltA w 1 wa;have eJ:w.heap.size+1+1<wa.heap.size:=Ua;have nC:=Nf lO;clear lO)
  | (go_at_call 101;go_loud (refine(xL Ac cc _ Jb (nC.out.later Jb)).mono ?_;rintro r wl ⟨⟨X,Bs,Bt,Bf,rfl,oW⟩,ij⟩;have bO:=Jg ij;have gM:=Jf ij;have su:wa.heap.size+1<=wl.heap.size:=(by have:=ij.size;simpa using this);have xM:=Nf oW;clear oW)))
 refine Jo fun W hW=>?_;have dZ:=Nd w W (by rw [hW];exact Jb)
 have bA:=Nd wa W (by rw [hW];exact Jb)
 have kK:=Nd wl W (by rw [hW];exact Jb)
 have g0:=Na W (w.heap.size+1) 0 0 (Ja bA Ub9);have f0:=Nc W (w.heap.size+1) 0 ((Jf bA _ _ aX).trans ((bS _ _ Uh).trans Uc));have g1:=Na W (w.heap.size+1) 1 0 (Ja bA Ub9);have f1:=Nc W (w.heap.size+1) 1 ((Jf bA _ _ aX).trans ((bS _ _ Uh).trans Uc));have g2:=Na W (w.heap.size+1) 2 0 (Ja bA Ub9);have f2:=Nc W (w.heap.size+1) 2 ((Jf bA _ _ aX).trans ((bS _ _ Uh).trans Uc));have g3:=Na W (w.heap.size+1) 3 0 (Ja bA Ub9);have f3:=Nc W (w.heap.size+1) 3 ((Jf bA _ _ aX).trans ((bS _ _ Uh).trans Uc));have g4:=Na W (w.heap.size+1) 4 0 (Ja bA Ub9);have f4:=Nc W (w.heap.size+1) 4 ((Jf bA _ _ aX).trans ((bS _ _ Uh).trans Uc));have p0:=Nb W w.heap.size 0 (.string p.name) (Ja bA Ucb);have p1:=Nb W w.heap.size 1 (.slice A1 p.ins.length c1) (Ja bA Ucb);have p2:=Nb W w.heap.size 2 (.slice A2 p.outs.length c2) (Ja bA Ucb);have p3:=Nb W w.heap.size 3 (.slice A3 p.locals.length c3) (Ja bA Ucb);have p4:=Nb W w.heap.size 4 (.slice A4 p.eqs.length c4) (Ja bA Ucb);have d0:=Na W (w.heap.size+1+1) 0 0 (Ja bA Ub9);have e0:=Nc W (w.heap.size+1+1) 0 ((Jf bA _ _ eJ).trans ((bS _ _ Uh).trans Uc));have q0:=Na W wa.heap.size 0 0 (Ja kK (by rw [bO _ _ Uh];go_simp));have d1:=Na W (w.heap.size+1+1) 1 0 (Ja bA Ub9);have e1:=Nc W (w.heap.size+1+1) 1 ((Jf bA _ _ eJ).trans ((bS _ _ Uh).trans Uc));have q1:=Na W wa.heap.size 1 0 (Ja kK (by rw [bO _ _ Uh];go_simp));have d2:=Na W (w.heap.size+1+1) 2 0 (Ja bA Ub9);have e2:=Nc W (w.heap.size+1+1) 2 ((Jf bA _ _ eJ).trans ((bS _ _ Uh).trans Uc));have q2:=Na W wa.heap.size 2 0 (Ja kK (by rw [bO _ _ Uh];go_simp));have mM:Jfw W X Bs Bt Bf (Je p) (Jq p) Ac cc:=xM.out.later kK;have mN:=mM.plan cC.out.nodup (fun d _=>Jtp d _ cC.out.flags);have sv:Jbh W (Jq p) Ac cc:=nC.out.later bA;have hwW:w.heap.size+3<=W.heap.size:=by have:=bA.size;omega
 have hwaW:wa.heap.size<W.heap.size:=by have:=kK.size;omega
 have kL:=Nf mM;have oX:=Nf sv;have mO:=Nf mN;have X0:=mN.c0;have X1:=mM.c1;obtain⟨nS,fS,cS,hmS,hfS⟩:=mN.slots;have xN:=Nf hmS;have mL:=Nf hfS;clear hW aW bS bO gM aA ij xM nC ah xL mM mN sv hmS hfS dG aX eJ su;generalize dF:Xu (Je p)=sl at *;generalize gM:Kg (Jq p)=fl at *;have HINS2:=Nf (Je4 sl p.ins 0)
 go_loopw [8,41] (fun h i wr=>∃(k:Nat) (A:Option Addr) (cap:Nat),k<=p.ins.length/\h = .slice A (Yh sl 0 (p.ins.take k)).length cap/\i = .int .i64 k/\Hid (Kos wr (Yh sl 0 (p.ins.take k)) A cap)/\Below W.heap.size W wr) (fun _ i _=>p.ins.length-(intOf i).toNat)
 case atStart=>exact⟨0,none,0,Np,rfl,rfl,Nf (Jar _),Nt⟩
 case round=>
  obtain⟨k,A,cap,hk,rfl,rfl,hi,ab⟩:=hrel;have bu:=ab.size;have aC:=Nd w wr (Jd dZ ab)
  by_cases am:k<p.ins.length
  ·have hx:p.ins[k]?=some p.ins[k]:=Ng am;have aj:p.ins[k]∈p.ins:=Nj am;have aP:p.ins.take (k+1)=p.ins.take k ++ [p.ins[k]]:=U7;generalize p.ins[k]=x at hx aj aP;have dT:=(nA.out x (by simp [Je,aj])).1
   have hI:Yh sl 0 (p.ins.take (k+1))=Yh sl 0 (p.ins.take k) ++ [(6,(k:Int))] ++ [(3,sl x.name)]:=by
    rw [aP,Jis,List.length_take,show 0+min k p.ins.length=k from by omega,List.append_assoc];rfl
   have jN:=cC.out.small.1;have hI2:(Yh sl 0 (p.ins.take k)).length<=100:=by rw [Je4,List.length_take];omega
   obtain⟨b,off,rfl,aH,⟨d0',d1',d2',d3'⟩⟩:=(oU.out.later aC).get hx;have HI:=Nf hI;have xI:IntKind.i32.wrap (k:Int)=(k:Int):=Jbn Vx;have oz:=Ja ab X0;clear hx aj aP hI;generalize Yh sl 0 (p.ins.take k)=hd at *;have l2:=hi.out.1;have m2:=hi.out.2.1;unfold maxLen at m2
   go_wp2_with fail
   refine Jo fun V1 dq=>?_;have ac:=Nd wr V1 G0;have z0:=Nb V1 wr.heap.size 0 (.string x.name) Uy;have kM:=Ja ac oz;have bK:=Nd W V1 (Jd ab ac)
   have hS:∀w',Below V1.heap.size V1 w'->w'.cell? ⟨X,0,none⟩=some (.map (some Bs))/\w'.cell? ⟨wr.heap.size,0,none⟩=some (.string x.name)/\(Instr.lookup 204 (.map (some Bs)) (.string x.name) false).run Tryz.prog w' = .ok (.int .i32 (sl x.name)) w':=fun w' hb=>
    ⟨Ja hb kM,Ja hb z0,Jcb (Jc2 Tryz.underlying9) (x:= .string x.name) Tryz.underlying204 Tryz.underlying21 (Jbp _) rfl (xN.out.bel (Jd bK hb)) dT (mL.out _ dT)⟩
   have HS:=Nf hS;have sw:=Nf (hi.out.later ac);clear dq hS z0 kM oz d0' d1' d2' d3';have ar:=HS.out V1.drew (Jh (Nt));refine Kd (fun w'=>w'.cell? ⟨X,0,none⟩=some (.map (some Bs))/\w'.cell? ⟨wr.heap.size,0,none⟩=some (.string x.name)/\(Instr.lookup 204 (.map (some Bs)) (.string x.name) false).run Tryz.prog w' = .ok (.int .i32 (sl x.name)) w') 14 1 Ue Gp ?_;simp only [List.size_toArray,Nl,Nm,Nat.zero_add,Nat.reduceAdd];refine Ji 0 ar ?_;refine Ji 1 ar ?_;refine Ji 2 ar ?_;refine Ji 4 ar ?_;refine Ji 5 ar ?_;refine Ji 6 ar ?_;refine Ji 7 ar ?_;refine Ji 8 ar ?_;refine Ji 9 ar ?_;refine Ji 10 ar ?_;refine Kb 3 ?_;refine Jj fun K hK=>?_;go_simp;refine(Jcm _ _ _).mono ?_;rintro r w1 ⟨⟨g1',rfl,dN⟩,eM⟩;dsimp only;have cT:=Nd V1 w1 (Jd (Jh (Nt)) eM);refine hK _ _ ⟨HS.out w1 cT,?_⟩;clear hK K
   try simp only [Act.put,sa1,sa2,sa3]
   refine Kb 11 ?_;refine Jj fun K hK=>?_;go_simp;refine(Jcm _ _ _).mono ?_;rintro r w2 ⟨⟨g2',rfl,dR⟩,iJ⟩;dsimp only;have cF:=Nd V1 w2 (Jd cT iJ);refine hK _ _ ⟨HS.out w2 cF,?_⟩;clear hK K
   try simp only [Act.put,sa1,sa2,sa3]
   refine Kb 12 ?_;refine Jj fun K hK=>?_;go_simp;refine hK _ _ ⟨HS.out _ (Jc cF _),?_⟩;clear hK K
   try simp only [Act.put,sa1,sa2,sa3]
   refine Kb 13 ?_;refine Jj fun K hK=>?_;go_simp;refine(Jxf hd [(6,(k:Int))] [(3,sl x.name)] A cap (some ⟨g1',0,none⟩) 1 (some ⟨g2',0,none⟩) 1 w2 _ (sw.out.later cF) (dN.later iJ) dR Ui).mono ?_;rintro r w3 ⟨⟨A3',c3',rfl,iI⟩,nD⟩;dsimp only;have cZ:=Nd V1 w3 (Jd cF nD);refine hK _ _ ⟨HS.out w3 cZ,?_⟩;clear hK K
   try simp only [Act.put,sa1,sa2,sa3]
   refine Kh Ue ?_;refine Qx 14 ?_;refine Jj fun K hK=>?_;go_simp;refine hK _ _ ?_;clear hK K
   try simp only [Act.put,sa1,sa2,sa3]
   refine Ki Ue ?_
   go_wp2_with fail
   go_roundw
   case rel=>exact⟨k+1,A3',c3',Ua,by rw [HI.out];simp,Uw,Nf (by rw [HI.out];exact iI),Jd bK cZ⟩
   case measure=>simp [intOf];omega
  ·obtain rfl:k=p.ins.length:=Ua;rw [List.take_length] at hi;have sy:=hi;have hH0:(Yh sl 0 p.ins).length<=100:=by rw [Je4];have:=cC.out.small.1;omega
   have yp4:=Nb wr w.heap.size 4 (.slice A4 p.eqs.length c4) (Ja ab p4);have xO:=ab;clear hi;rw [List.take_length];generalize hH:Yh sl 0 p.ins=H0 at *;obtain⟨W2,rfl⟩:∃W2,W2=wr:=⟨wr,rfl⟩
   go_wp2_with fail
   go_loopw [8,9,13,64] (fun h t kk i wr=>∃(k:Nat) (A:Option Addr) (cap:Nat) (A':Option Addr) (cap':Nat),k<=p.eqs.length/\h = .slice A (H0 ++ Zx sl 0 (J0 (p.eqs.take k))).length cap/\t = .slice A' (Zu sl fl (Je p) 0 (J0 (p.eqs.take k))).length cap'/\kk = .int .i32 ((J0 (p.eqs.take k)).length:Nat)/\i = .int .i64 k/\Hid (Kos wr (H0 ++ Zx sl 0 (J0 (p.eqs.take k))) A cap)/\Hid (Kos wr (Zu sl fl (Je p) 0 (J0 (p.eqs.take k))) A' cap')/\Below W.heap.size W wr) (fun _ _ _ i _=>p.eqs.length-(intOf i).toNat)
   case atStart=>exact⟨0,A,cap,none,0,Np,by simp [J0,Zx],by simp [J0,Zu],by simp [J0],rfl,Nf (by rw [show H0 ++ Zx sl 0 (J0 (p.eqs.take 0))=H0 by simp [J0,Zx]];exact sy.out),Nf (Jar _),xO⟩
   case round=>
    obtain⟨k,A,cap,A',cap',hk,rfl,rfl,rfl,rfl,hi,mP,ab⟩:=hrel;have bu:=ab.size;have aC:=Nd w wr (Jd dZ ab)
    by_cases am:k<p.eqs.length
    ·have hx:p.eqs[k]?=some p.eqs[k]:=Ng am;have aj:p.eqs[k]∈p.eqs:=Nj am;have aP:p.eqs.take (k+1)=p.eqs.take k ++ [p.eqs[k]]:=U7;generalize p.eqs[k]=q at hx aj aP;have cM:=cC.out.eqs q aj;have aN:=cC.out.clock aj;have aZ:=fun c=>cC.out.codes q aj sl fl c;obtain⟨b,off,B1,k1,B2,k2,rfl,bG,⟨d0',d1',d2',d3',d4',d5',d6',d7',d8',d9',sf,se⟩⟩:=(qO.out.later aC).get hx;have dw:okS q.name:=Ml;have eD:J0 (p.eqs.take (k+1))=J0 (p.eqs.take k) ++ (if (q.delay != 0)=true then [q] else []):=by rw [aP,Jo4]
     have ek:(J0 (p.eqs.take k)).length<=24:=by
      have:=Ja4 (p.eqs.take k);rw [List.length_take] at this;have:=cC.out.small.2.2.2;exact Ua
     have hol:(H0 ++ Zx sl 0 (J0 (p.eqs.take k))).length<=1000:=by rw [Nk,Jkf];omega
     have jV:(Zu sl fl (Je p) 0 (J0 (p.eqs.take k))).length<=10000:=by
      have:=Jko sl fl (Je p) (J0 (p.eqs.take k)) 0 (fun y hy c=>cC.out.codes y (List.mem_of_mem_take (Z4 hy).1) sl fl c);exact Ua
     have HDE:=Nf eD
     cases tq:(q.delay == 0)
     ·have tq2:(q.delay != 0)=true:=by rw [bne,tq];rfl
      rw [if_pos tq2] at eD
      have hO:H0 ++ Zx sl 0 (J0 (p.eqs.take (k+1)))=(H0 ++ Zx sl 0 (J0 (p.eqs.take k))) ++ [(4,((J0 (p.eqs.take k)).length:Int))] ++ [(3,sl q.name)]:=by
       rw [eD,Jnd,Nat.zero_add];simp [List.append_assoc]
      have hN:Zu sl fl (Je p) 0 (J0 (p.eqs.take (k+1)))=Zu sl fl (Je p) 0 (J0 (p.eqs.take k)) ++ Qk sl (J9 (Je p) q.name) (q.e.gen sl fl (J9 (Je p) q.name) ++ [(5,((J0 (p.eqs.take k)).length:Int))]):=by
       rw [eD,Jmv,Nat.zero_add]
      have hL1:(J0 (p.eqs.take (k+1))).length=(J0 (p.eqs.take k)).length+1:=by rw [eD,Nk];rfl
      have HO:=Nf hO;have HN:=Nf hN;have HL1:=Nf hL1;have ik:=Jiv q.name (Je p);rw [show(Je p).foldl (fun c v=>if q.name.data=v.name.data then(v.ck,v.cn) else c) (0,⟨#[]⟩)=J9 (Je p) q.name from rfl] at ik;have oY:=kL.out.clks;generalize (J0 (p.eqs.take k)).length=nd at *;generalize H0 ++ Zx sl 0 (J0 (p.eqs.take k))=hd at *;generalize Zu sl fl (Je p) 0 (J0 (p.eqs.take k))=td at *;generalize J9 (Je p) q.name=CK at *;obtain⟨ck,cs⟩:=CK;dsimp only at aN;have lq:okC (ck,cs):=⟨by unfold I64;dsimp only;omega,by have:=aN.1;unfold maxLen;dsimp only;omega⟩;have eS:=aZ (ck,cs);have hul:=Jb0 sl (ck,cs) (q.e.gen sl fl (ck,cs) ++ [(5,(nd:Int))]);have lP:=Jow X Bs Bf sl fl q.e cM.formed Sp B2 k2 ck cs;unfold exV at lP;have xI:IntKind.i32.wrap ((nd:Int)+1)=((nd+1:Nat):Int):=(Jbn Vx).trans Ua;have oz:=Ja ab X0;have xP:=Ja ab X1;have wE:=Nf (oY.bel ab);have jW:=Nf (mO.out.later ab);have tS:=Nf (xN.out.bel ab);have HEX:=Nf lP;have nE:=Nf se;have oZ:=aN.2;clear hx aj aP eD hO hN hL1 oY lP sf se aZ
      go_wp2_with fail
      refine Jo fun V1 dq=>?_;have ac:=Nd wr V1 G0;have mQ:V1.heap.size=wr.heap.size+1:=Td;have z0:=Nb V1 wr.heap.size 0 (.string q.name) Uy;have z6:=Na V1 wr.heap.size 6 q.e.kind Uy;have z7:=Nb V1 wr.heap.size 7 (.int .i32 q.e.n) Uy;have z8:=Nb V1 wr.heap.size 8 (.string q.e.name) Uy;have z9:=Nb V1 wr.heap.size 9 (.slice B2 q.e.sub.length k2) Uy;have pb:=Ja ac oz;have pc:=Ja ac xP
      have hSA:∀w',Below V1.heap.size V1 w'->w'.cell? ⟨X,0,none⟩=some (.map (some Bs))/\w'.cell? ⟨wr.heap.size,0,none⟩=some (.string q.name)/\(Instr.lookup 204 (.map (some Bs)) (.string q.name) false).run Tryz.prog w' = .ok (.int .i32 (sl q.name)) w':=fun w' hb=>
       ⟨Ja hb pb,Ja hb z0,Jcb (Jc2 Tryz.underlying9) (x:= .string q.name) Tryz.underlying204 Tryz.underlying21 (Jbp _) rfl (tS.out.bel (Jd ac hb)) dw (mL.out _ dw)⟩
      have wF:∀w',Below V1.heap.size V1 w'->w'.cell? ⟨X,1,none⟩=some (.map (some Bt))/\w'.cell? ⟨wr.heap.size,0,none⟩=some (.string q.name)/\(Instr.lookup 205 (.map (some Bt)) (.string q.name) false).run Tryz.prog w' = .ok (.agg #[.int .i64 ck,.string cs]) w':=fun w' hb=>
       ⟨Ja hb pc,Ja hb z0,Ji1 (Jc2 Tryz.underlying9) Jgn Tryz.underlying205 (Jdv w') ⟨Vy,Ug⟩ (x:= .string q.name) rfl (wE.out.bel (Jd ac hb)) dw ik⟩
      have wG:=Nf hSA;have wH:=Nf wF;have sw:=Nf (hi.out.later ac);have tT:=Nf (mP.out.later ac);have bK:=Nd W V1 (Jd ab ac);have xQ:=Nd w V1 (Jd aC ac);have tU:=Nf (jW.out.later ac);have l2:=hi.out.1;have m2:=hi.out.2.1;have l2':=mP.out.1;have m2':=mP.out.2.1;unfold maxLen at m2 m2';have Z6:=Nf z6;have Z7:=Nf z7;have Z8:=Nf z8;have Z9:=Nf z9;clear dq hSA wF z0 z6 z7 z8 z9 pb pc oz xP ik d0' d1' d2' d3' d4' d5' d6' d7' d8' d9';have ar:=wG.out V1.drew (Jh (Nt));refine Kd (fun w'=>w'.cell? ⟨X,0,none⟩=some (.map (some Bs))/\w'.cell? ⟨wr.heap.size,0,none⟩=some (.string q.name)/\(Instr.lookup 204 (.map (some Bs)) (.string q.name) false).run Tryz.prog w' = .ok (.int .i32 (sl q.name)) w') 13 1 Ue Gp ?_;simp only [List.size_toArray,Nl,Nm,Nat.zero_add,Nat.reduceAdd];refine Ji 0 ar ?_;refine Ji 1 ar ?_;refine Ji 3 ar ?_;refine Ji 4 ar ?_;refine Ji 5 ar ?_;refine Ji 6 ar ?_;refine Ji 7 ar ?_;refine Ji 8 ar ?_;refine Ji 9 ar ?_;refine Kb 2 ?_;refine Jj fun K hK=>?_;go_simp;refine(Jcm _ _ _).mono ?_;rintro r w1 ⟨⟨g1',rfl,dN⟩,eM⟩;dsimp only;have cT:=Nd V1 w1 (Jd (Jh (Nt)) eM);refine hK _ _ ⟨wG.out w1 cT,?_⟩;clear hK K
      try simp only [Act.put,sa1,sa2,sa3]
      refine Kb 10 ?_;refine Jj fun K hK=>?_;go_simp;refine(Jcm _ _ _).mono ?_;rintro r w2 ⟨⟨g2',rfl,dR⟩,iJ⟩;dsimp only;have cF:=Nd V1 w2 (Jd cT iJ);refine hK _ _ ⟨wG.out w2 cF,?_⟩;clear hK K
      try simp only [Act.put,sa1,sa2,sa3]
      refine Kb 11 ?_;refine Jj fun K hK=>?_;go_simp;refine hK _ _ ⟨wG.out _ (Jc cF _),?_⟩;clear hK K
      try simp only [Act.put,sa1,sa2,sa3]
      refine Kb 12 ?_;refine Jj fun K hK=>?_;go_simp;refine(Jxf hd [(4,(nd:Int))] [(3,sl q.name)] A cap (some ⟨g1',0,none⟩) 1 (some ⟨g2',0,none⟩) 1 w2 _ (sw.out.later cF) (dN.later iJ) dR Ui).mono ?_;rintro r w3 ⟨⟨A3',c3',rfl,iI⟩,nD⟩;dsimp only;have cZ:=Nd V1 w3 (Jd cF nD);refine hK _ _ ⟨wG.out w3 cZ,?_⟩;clear hK K
      try simp only [Act.put,sa1,sa2,sa3]
      refine Kh Ue ?_;refine Qx 13 ?_;refine Jj fun K hK=>?_;go_simp;refine hK _ _ ?_;clear hK K
      try simp only [Act.put,sa1,sa2,sa3]
      refine Ki Ue ?_;have fe:=cZ.size;have lQ:=Nf iI;have dr:=wH.out w3.drew (Jh cZ);clear ar dN dR iI eM iJ nD cT cF
      go_wp2_with fail
      refine Kd (fun w'=>w'.cell? ⟨X,1,none⟩=some (.map (some Bt))/\w'.cell? ⟨wr.heap.size,0,none⟩=some (.string q.name)/\(Instr.lookup 205 (.map (some Bt)) (.string q.name) false).run Tryz.prog w' = .ok (.agg #[.int .i64 ck,.string cs]) w') 8 1 Ue Gp ?_;simp only [List.size_toArray,Nl,Nm,Nat.zero_add,Nat.reduceAdd];refine Ji 0 dr ?_;refine Ji 1 dr ?_;refine Ji 2 dr ?_;refine Ji 3 dr ?_;refine Ji 4 dr ?_;refine Ji 5 dr ?_;refine Ji 6 dr ?_;refine Kb 7 ?_;refine Jj fun K hK=>?_;go_simp;refine hK _ _ ⟨wH.out _ (Jh (Jc cZ _)),?_⟩;clear hK K
      try simp only [Act.put,sa1,sa2,sa3]
      refine Kh Ue ?_;refine Qx 8 ?_;refine Jj fun K hK=>?_;go_simp;refine hK _ _ ?_;clear hK K
      try simp only [Act.put,sa1,sa2,sa3]
      refine Ki Ue ?_;refine Zc fun V2 bz=>?_;have c0':=Na V2 w3.heap.size 0 ck (by rw [bz,Xi];go_simp)
      have c1':=Nb V2 w3.heap.size 1 (.string cs) (by rw [bz,Xi];go_simp)
      have gu:=Nd V1 V2 (by rw [bz];exact Jh (Jc cZ _))
      have pe:=Nd w3 V2 (by rw [bz];exact Jh (Jc (Nt) _))
      have tV:∀w',Below V2.heap.size V2 w'->w'.cell? ⟨wr.heap.size,6,none⟩=some (.int .i64 q.e.kind)/\w'.cell? ⟨wr.heap.size,7,none⟩=some (.int .i32 q.e.n)/\w'.cell? ⟨wr.heap.size,8,none⟩=some (.string q.e.name)/\w'.cell? ⟨wr.heap.size,9,none⟩=some (.slice B2 q.e.sub.length k2)/\w'.cell? ⟨w3.heap.size,0,none⟩=some (.int .i64 ck)/\w'.cell? ⟨w3.heap.size,1,none⟩=some (.string cs):=fun w' hb=>
       ⟨Ja hb (Ja gu Z6.out),Ja hb (Ja gu Z7.out),Ja hb (Ja gu Z8.out),Ja hb (Ja gu Z9.out),Ja hb c0',Ja hb c1'⟩
      have jX:=Nf tV;have qP:=Nf (lQ.out.later pe);have HTV:=Nf (tT.out.later gu);have xR:=Nf (tU.out.later gu);have hbw4:=Nd w V2 (Jd xQ gu);have cX:=Nd wr V2 (Jd ac gu);have dk:=tV V2.drew (Jh (Nt));clear dr bz tV c0' c1' lQ fe wG wH
      go_wp2_with fail
      refine Kd (fun w'=>w'.cell? ⟨wr.heap.size,6,none⟩=some (.int .i64 q.e.kind)/\w'.cell? ⟨wr.heap.size,7,none⟩=some (.int .i32 q.e.n)/\w'.cell? ⟨wr.heap.size,8,none⟩=some (.string q.e.name)/\w'.cell? ⟨wr.heap.size,9,none⟩=some (.slice B2 q.e.sub.length k2)/\w'.cell? ⟨w3.heap.size,0,none⟩=some (.int .i64 ck)/\w'.cell? ⟨w3.heap.size,1,none⟩=some (.string cs)) 15 1 Ue Gp ?_;simp only [List.size_toArray,Nl,Nm,Nat.zero_add,Nat.reduceAdd];refine Ji 0 dk ?_;refine Ji 1 dk ?_;refine Ji 2 dk ?_;refine Ji 3 dk ?_;refine Ji 4 dk ?_;refine Ji 5 dk ?_;refine Ji 6 dk ?_;refine Ji 8 dk ?_;refine Kb 7 ?_;refine Jj fun K hK=>?_;go_simp;refine(HEX.out V2.drew (xR.out.later (Jh (Nt))) (nE.out.later (Jh (Jd ac gu))) lq).mono ?_;rintro r w4 ⟨⟨A4',c4',rfl,qQ⟩,pg⟩;dsimp only;have qN:=Nd V2 w4 (Jd (Jh (Nt)) pg);refine hK _ _ ⟨jX.out w4 qN,?_⟩;clear hK K
      try simp only [Act.put,sa1,sa2,sa3]
      refine Kb 9 ?_;refine Jj fun K hK=>?_;go_simp;refine(Jcm _ _ _).mono ?_;rintro r w5 ⟨⟨g5',rfl,bP⟩,kN⟩;dsimp only;have ph:=Nd V2 w5 (Jd qN kN);refine hK _ _ ⟨jX.out w5 ph,?_⟩;clear hK K
      try simp only [Act.put,sa1,sa2,sa3]
      refine Kb 10 ?_;refine Jj fun K hK=>?_;go_simp;refine hK _ _ ⟨jX.out _ (Jc ph _),?_⟩;clear hK K
      try simp only [Act.put,sa1,sa2,sa3]
      refine Kb 11 ?_;refine Jj fun K hK=>?_;go_simp;refine(Jl7 (q.e.gen sl fl (ck,cs)) [(5,(nd:Int))] A4' c4' (some ⟨g5',0,none⟩) 1 w5 _ (qQ.later kN) bP Ui).mono ?_;rintro r w6 ⟨⟨A6',c6',rfl,oA⟩,pi⟩;dsimp only;have hl6:(q.e.gen sl fl (ck,cs) ++ [(5,(nd:Int))]).length<=400:=Fx;have nF:=Nd V2 w6 (Jd ph pi);generalize q.e.gen sl fl (ck,cs) ++ [(5,(nd:Int))]=l6 at *;refine hK _ _ ⟨jX.out w6 nF,?_⟩;clear hK K
      try simp only [Act.put,sa1,sa2,sa3]
      refine Kb 12 ?_;refine Jj fun K hK=>?_;go_simp;refine(Jh7 X Bs Bf sl fl ck cs l6 A6' c6' w6 (xR.out.later nF) lq oZ oA Ua).mono ?_;rintro r w7 ⟨⟨A7',c7',rfl,oB⟩,pj⟩;dsimp only;have mR:=Nd V2 w7 (Jd nF pj);refine hK _ _ ⟨jX.out w7 mR,?_⟩;clear hK K
      try simp only [Act.put,sa1,sa2,sa3]
      refine Kb 13 ?_;refine Jj fun K hK=>?_;go_simp;refine hK _ _ ⟨jX.out _ (Jc mR _),?_⟩;clear hK K
      try simp only [Act.put,sa1,sa2,sa3]
      refine Kb 14 ?_;refine Jj fun K hK=>?_;go_simp;refine(Jl7 td (Qk sl (ck,cs) l6) A' cap' A7' c7' w7 _ (HTV.out.later mR) oB Ua).mono ?_;rintro r w8 ⟨⟨A8',c8',rfl,sA⟩,pk⟩;dsimp only;have rr:=Nd V2 w8 (Jd mR pk);refine hK _ _ ⟨jX.out w8 rr,?_⟩;clear hK K
      try simp only [Act.put,sa1,sa2,sa3]
      refine Kh Ue ?_;refine Qx 15 ?_;refine Jj fun K hK=>?_;go_simp;refine hK _ _ ?_;clear hK K
      try simp only [Act.put,sa1,sa2,sa3]
      refine Ki Ue ?_;have rs:=Nf sA;have HIh:=Nf (qP.out.later rr);have jh:=Nd W w8 (Jd ab (Jd cX rr));clear dk qQ bP oA oB sA jX
      go_wp2_with fail
      go_roundw
      case rel=>exact⟨k+1,A3',c3',A8',c8',Ua,by rw [HO.out];simp,by rw [HN.out];simp,by rw [HL1.out];first|(simp;done)|(congr 1;omega),Uw,Nf (by rw [HO.out];exact HIh.out),Nf (by rw [HN.out];exact rs.out),jh⟩
      case measure=>simp [intOf];omega
     ·have tq2:(q.delay != 0)=false:=by rw [bne,tq];rfl
      rw [if_neg (by rw [tq2];decide),List.append_nil] at eD;clear hx aj aP aZ sf se aN
      go_wp2_with fail
      go_roundw
      case rel=>exact⟨k+1,A,cap,A',cap',Ua,by rw [eD],by rw [eD],by rw [eD],Uw,Nf (by rw [eD];exact hi.out.later (Jc (Nt) _)),Nf (by rw [eD];exact mP.out.later (Jc (Nt) _)),Jc ab _⟩
      case measure=>simp [intOf];omega
    ·obtain rfl:k=p.eqs.length:=Ua;rw [List.take_length] at hi mP;rw [List.take_length]
     have nq:(J0 p.eqs).length<=24:=by
      have:=Ja4 p.eqs;have:=cC.out.small.2.2.2;exact Ua
     have dj:Jq p=(J0 p.eqs).map (Xm (Je p)) ++ Kaq (Jad (Je p) p.eqs) (X3 (Je p)):=rfl;have hndc:(J0 p.eqs).length<=(Jq p).length:=by rw [dj,Nk,List.length_map];omega
     have hol:(H0 ++ Zx sl 0 (J0 p.eqs)).length<=1000:=by rw [Nk,Jkf];omega
     have jV:(Zu sl fl (Je p) 0 (J0 p.eqs)).length<=10000:=by
      have:=Jko sl fl (Je p) (J0 p.eqs) 0 (fun y hy c=>cC.out.codes y (Z4 hy).1 sl fl c);exact Ua
     have HCD:Hid (Xs p=H0 ++ Zx sl 0 (J0 p.eqs) ++ Xd sl fl (Je p) p.eqs (Kot p).1 ++ (Zu sl fl (Je p) 0 (J0 p.eqs) ++ Ze sl (J0 p.eqs).length ((Jq p).drop (J0 p.eqs).length) ++ Xl sl 0 p.outs)):=Nf (by unfold Xs;rw [dF,gM,hH];simp [List.append_assoc]);have xS:=ab;generalize hH1:H0 ++ Zx sl 0 (J0 p.eqs)=H1 at *;generalize hT0:Zu sl fl (Je p) 0 (J0 p.eqs)=T0 at *;generalize hndd:(J0 p.eqs).length=nd at *;have xT:=hi;have HIT:=mP;obtain⟨W3,rfl⟩:∃W3,W3=wr:=⟨wr,rfl⟩;obtain⟨hcc1,oP,_⟩:=id oX.out;unfold maxLen at oP;clear hi mP dj
     go_wp2_with fail
     go_loopw [9,13] (fun t kk wr=>∃(m j:Nat) (A':Option Addr) (cap':Nat),Hid (j=nd+m)/\m<=((Jq p).drop nd).length/\t = .slice A' (T0 ++ Ze sl nd (((Jq p).drop nd).take m)).length cap'/\kk = .int .i32 (j:Int)/\Hid (Kos wr (T0 ++ Ze sl nd (((Jq p).drop nd).take m)) A' cap')/\Below W3.heap.size W3 wr) (fun _ kk _=>(Jq p).length-(intOf kk).toNat)
     case atStart=>exact⟨0,nd,A',cap',Nf rfl,Np,by simp [Ze],rfl,Nf (by rw [show T0 ++ Ze sl nd (((Jq p).drop nd).take 0)=T0 by simp [Ze]];exact HIT.out),Nt⟩
     case round=>
      obtain⟨m,j,A',cap',hj,hm,rfl,rfl,mP,en⟩:=hrel;have ab:=Nd W wr (Jd xS en);have bu:=ab.size;have aC:=Nd w wr (Jd dZ ab);have ek:((Jq p).drop nd).length=(Jq p).length-nd:=List.length_drop ..;have hjle:j<=(Jq p).length:=Sw;have xI:IntKind.i64.wrap (j:Int)=(j:Int):=Jqu Vy
      by_cases am:m<((Jq p).drop nd).length
      ·have dO:j<(Jq p).length:=Sw;have jp:(j:Int)<((Jq p).length:Int):=Ua;have hx:(Jq p)[j]?=some (Jq p)[j]:=Ng dO;have aj:(Jq p)[j]∈Jq p:=Nj dO;have aP:((Jq p).drop nd).take (m+1)=((Jq p).drop nd).take m ++ [(Jq p)[j]]:=by rw [List.take_succ_eq_append_getElem am,List.getElem_drop];simp [hj.out]
       generalize (Jq p)[j]=x at hx aj aP;have xU:=cC.out.cells aj;have lq:okC (x.ck,x.cn):=oV.out x aj
       have hF:T0 ++ Ze sl nd (((Jq p).drop nd).take (m+1))=(T0 ++ Ze sl nd (((Jq p).drop nd).take m)) ++ Qk sl (x.ck,x.cn) ([(1,1)] ++ [(5,(j:Int))]):=by
        rw [aP,Jnj,List.length_take,show min m ((Jq p).drop nd).length=m from by omega,List.append_assoc,hj.out];rfl
       have tI:=Jkc sl (((Jq p).drop nd).take m) nd;rw [List.length_take] at tI;have htl:(T0 ++ Ze sl nd (((Jq p).drop nd).take m)).length<=20000:=D9;have hul:=Jb0 sl (x.ck,x.cn) ([(1,1)] ++ [(5,(j:Int))]);obtain⟨b,off,rfl,cB⟩:=(oX.out.later ab).2.2.2 Ua;have aY:=Jdh (Jq p) j x hx;have d1':=Na wr b (off+j * 4+1) x.ck (cB _ _ aY.2.1);have d2':=Nb wr b (off+j * 4+2) (.string x.cn) (cB _ _ aY.2.2.1);have HF:=Nf hF;have hSE:∀w',Below wr.heap.size wr w'->w'.cell? ⟨b,off+j * 4+1,none⟩=some (.int .i64 x.ck)/\w'.cell? ⟨b,off+j * 4+2,none⟩=some (.string x.cn):=fun w' hb=>⟨Ja hb d1',Ja hb d2'⟩;have nE:=Nf hSE;have ar:=hSE wr.drew (Jh (Nt));have jW:=Nf (mO.out.later ab);have l2':=mP.out.1;have m2':=mP.out.2.1;unfold maxLen at m2';have oZ:=xU.1;have xV:IntKind.i32.wrap ((j:Int)+1)=((j+1:Nat):Int):=(Jbn Vx).trans Ua;clear hx aj aP xU hF cB aY hSE d1' d2';generalize T0 ++ Ze sl nd (((Jq p).drop nd).take m)=td at *
       go_wp2_with fail
       refine Kd (fun w'=>w'.cell? ⟨b,off+j * 4+1,none⟩=some (.int .i64 x.ck)/\w'.cell? ⟨b,off+j * 4+2,none⟩=some (.string x.cn)) 15 1 Ue Gp ?_;simp only [List.size_toArray,Nl,Nm,Nat.zero_add,Nat.reduceAdd];refine Ji 0 ar ?_;refine Ji 1 ar ?_;refine Ji 2 ar ?_;refine Ji 3 ar ?_;refine Ji 4 ar ?_;refine Ji 5 ar ?_;refine Ji 6 ar ?_;refine Ji 8 ar ?_;refine Kb 7 ?_;refine Jj fun K hK=>?_;go_simp;refine(Jcm _ _ _).mono ?_;rintro r w4 ⟨⟨g4',rfl,qQ⟩,pg⟩;dsimp only;have qN:=Nd wr w4 (Jd (Jh (Nt)) pg);refine hK _ _ ⟨nE.out w4 qN,?_⟩;clear hK K
       try simp only [Act.put,sa1,sa2,sa3]
       refine Kb 9 ?_;refine Jj fun K hK=>?_;go_simp;refine(Jcm _ _ _).mono ?_;rintro r w5 ⟨⟨g5',rfl,bP⟩,kN⟩;dsimp only;have ph:=Nd wr w5 (Jd qN kN);refine hK _ _ ⟨nE.out w5 ph,?_⟩;clear hK K
       try simp only [Act.put,sa1,sa2,sa3]
       refine Kb 10 ?_;refine Jj fun K hK=>?_;go_simp;refine hK _ _ ⟨nE.out _ (Jc ph _),?_⟩;clear hK K
       try simp only [Act.put,sa1,sa2,sa3]
       refine Kb 11 ?_;refine Jj fun K hK=>?_;go_simp;refine(Jl7 [(1,1)] [(5,(j:Int))] (some ⟨g4',0,none⟩) 1 (some ⟨g5',0,none⟩) 1 w5 _ (qQ.later kN) bP Uh).mono ?_;rintro r w6 ⟨⟨A6',c6',rfl,oA⟩,pi⟩;dsimp only;have hl6:([((1:Int),(1:Int))] ++ [((5:Int),(j:Int))]).length<=400:=Uh;have nF:=Nd wr w6 (Jd ph pi);generalize [((1:Int),(1:Int))] ++ [((5:Int),(j:Int))]=l6 at *;refine hK _ _ ⟨nE.out w6 nF,?_⟩;clear hK K
       try simp only [Act.put,sa1,sa2,sa3]
       refine Kb 12 ?_;refine Jj fun K hK=>?_;go_simp;refine(Jh7 X Bs Bf sl fl x.ck x.cn l6 A6' c6' w6 (jW.out.later nF) lq oZ oA Ua).mono ?_;rintro r w7 ⟨⟨A7',c7',rfl,oB⟩,pj⟩;dsimp only;have mR:=Nd wr w7 (Jd nF pj);refine hK _ _ ⟨nE.out w7 mR,?_⟩;clear hK K
       try simp only [Act.put,sa1,sa2,sa3]
       refine Kb 13 ?_;refine Jj fun K hK=>?_;go_simp;refine hK _ _ ⟨nE.out _ (Jc mR _),?_⟩;clear hK K
       try simp only [Act.put,sa1,sa2,sa3]
       refine Kb 14 ?_;refine Jj fun K hK=>?_;go_simp;refine(Jl7 td (Qk sl (x.ck,x.cn) l6) A' cap' A7' c7' w7 _ (mP.out.later mR) oB Ua).mono ?_;rintro r w8 ⟨⟨A8',c8',rfl,sA⟩,pk⟩;dsimp only;have rr:=Nd wr w8 (Jd mR pk);refine hK _ _ ⟨nE.out w8 rr,?_⟩;clear hK K
       try simp only [Act.put,sa1,sa2,sa3]
       refine Kh Ue ?_;refine Qx 15 ?_;refine Jj fun K hK=>?_;go_simp;refine hK _ _ ?_;clear hK K
       try simp only [Act.put,sa1,sa2,sa3]
       refine Ki Ue ?_;have rs:=Nf sA;have jh:=Nd W3 w8 (Jd en rr);clear ar qQ bP oA oB sA
       go_wp2_with fail
       go_roundw
       case rel=>exact⟨m+1,j+1,A8',c8',Nf Sw,Ua,by rw [HF.out];simp,by first|rfl|(simp;done)|(congr 1;omega),Nf (by rw [HF.out];exact rs.out),jh⟩
       case measure=>simp [intOf];omega
      ·obtain rfl:m=((Jq p).drop nd).length:=Ua;rw [List.take_length] at mP;rw [List.take_length];have hjn:¬(j:Int)<((Jq p).length:Int):=Sw;have rt:=Jkc sl ((Jq p).drop nd) nd;have htl:(T0 ++ Ze sl nd ((Jq p).drop nd)).length<=20000:=D9;have hbel2:=ab;generalize hT1:T0 ++ Ze sl nd ((Jq p).drop nd)=T1 at *;have HIT1:=mP;obtain⟨W4,rfl⟩:∃W4,W4=wr:=⟨wr,rfl⟩;have yq0:=Ja ab p0;have yq1:=Ja ab p1;have yq2:=Ja ab p2;have yq3:=Ja ab p3;have yq4:=Ja ab p4;clear mP rt
       go_wp2_with (first|(go_at_call 106;go_loud (refine(eL _ Jb).mono ?_;rintro r wo ⟨⟨vo,rfl,ae⟩,cW⟩;obtain⟨Ao,co,rfl,xW,tW⟩:=Jv ae;have fW:=Yq.of_own ae;have jY:=Jg cW;have jB:=cW.size;(try simp at jB))))
       refine Jo fun W5 xX=>?_;have da:=Nd W W5 Tb;have mS:Yq W5 (Kot p).1 Ao co:=fW.later Tb;have HINT:=Nf mS;have kC:=mS.1;have hil2:=mS.2.1;unfold maxLen at hil2;have holn:(Kot p).1.length<=24:=by have:=lN.out.2.1;have:=cC.out.small.2.2.2;omega
       have xY:Hid (Kos W5 H1 A cap):=Nf (xT.out.later (Jd en Tb));have xZ:Hid (Kos W5 T1 A' cap'):=Nf (HIT1.out.later Tb);clear xX fW ae mS jY cW
       go_loopw [10,138] (fun c i wr=>∃(k:Nat) (A:Option Addr) (cap:Nat),k<=(Kot p).1.length/\c = .slice A (Xd sl fl (Je p) p.eqs ((Kot p).1.take k)).length cap/\i = .int .i64 k/\Hid (Kos wr (Xd sl fl (Je p) p.eqs ((Kot p).1.take k)) A cap)/\Below W5.heap.size W5 wr) (fun _ i _=>(Kot p).1.length-(intOf i).toNat)
       case atStart=>exact⟨0,none,0,Np,by simp [Xd],rfl,Nf (by rw [List.take_zero,Xd];exact Jar _),Nt⟩
       case round=>
        obtain⟨k,Ao',capo,hk,rfl,rfl,lr,jF⟩:=hrel;have ab:=Nd W wr (Jd da jF);have bu:=ab.size;have aC:=Nd w wr (Jd dZ ab)
        by_cases am:k<(Kot p).1.length
        ·have hx:(Kot p).1[k]?=some (Kot p).1[k]:=Ng am;have aP:(Kot p).1.take (k+1)=(Kot p).1.take k ++ [(Kot p).1[k]]:=U7;generalize (Kot p).1[k]=jj at hx aP;obtain⟨m',q,rfl,hq⟩:=lN.out.2.2 k jj hx;have aj:=Ni hq;have tX:m'<p.eqs.length:=(Nh hq).1;have cM:=cC.out.eqs q aj;have aN:=cC.out.clock aj;have aZ:=fun c=>cC.out.codes q aj sl fl c;obtain⟨bo,offo,rfl,wI⟩:=(HINT.out.later jF).2.2 Ua;have di:=wI k _ hx;obtain⟨b,off,B1,k1,B2,k2,hA4,bG,⟨d0',d1',d2',d3',d4',d5',d6',d7',d8',d9',sf,se⟩⟩:=(qO.out.later aC).get hq;have dw:okS q.name:=Ml
         have hO:Xd sl fl (Je p) p.eqs ((Kot p).1.take (k+1))=Xd sl fl (Je p) p.eqs ((Kot p).1.take k) ++ Qk sl (J9 (Je p) q.name) (q.e.gen sl fl (J9 (Je p) q.name) ++ [(3,sl q.name)]):=by
          rw [aP,Jif,Jpr sl fl (Je p) p.eqs m' q hq]
         have jV:(Xd sl fl (Je p) p.eqs ((Kot p).1.take k)).length<=10000:=by
          have:=Jhf sl fl (Je p) p.eqs (fun y hy c=>cC.out.codes y hy sl fl c) ((Kot p).1.take k);rw [List.length_take] at this;exact Ua
         have HO:=Nf hO;have ik:=Jiv q.name (Je p);rw [show(Je p).foldl (fun c v=>if q.name.data=v.name.data then(v.ck,v.cn) else c) (0,⟨#[]⟩)=J9 (Je p) q.name from rfl] at ik;have oY:=kL.out.clks;generalize Xd sl fl (Je p) p.eqs ((Kot p).1.take k)=td at *;generalize J9 (Je p) q.name=CK at *;obtain⟨ck,cs⟩:=CK;dsimp only at aN;have lq:okC (ck,cs):=⟨by unfold I64;dsimp only;omega,by have:=aN.1;unfold maxLen;dsimp only;omega⟩;have eS:=aZ (ck,cs);have hul:=Jb0 sl (ck,cs) (q.e.gen sl fl (ck,cs) ++ [(3,sl q.name)]);have lP:=Jow X Bs Bf sl fl q.e cM.formed Sp B2 k2 ck cs;unfold exV at lP;have oz:=Ja ab X0;have xP:=Ja ab X1;have yy4:=Nb wr w.heap.size 4 (.slice A4 p.eqs.length c4) (Ja ab p4);have wE:=Nf (oY.bel ab);have jW:=Nf (mO.out.later ab);have tS:=Nf (xN.out.bel ab);have HEX:=Nf lP;have nE:=Nf se;have oZ:=aN.2;subst hA4;clear hx aP hq aj hO oY lP sf se aZ wI
         go_wp2_with fail
         refine Jo fun V1 dq=>?_;have ac:=Nd wr V1 G0;have mQ:V1.heap.size=wr.heap.size+1:=Td;have z0:=Nb V1 wr.heap.size 0 (.string q.name) Uy;have z6:=Na V1 wr.heap.size 6 q.e.kind Uy;have z7:=Nb V1 wr.heap.size 7 (.int .i32 q.e.n) Uy;have z8:=Nb V1 wr.heap.size 8 (.string q.e.name) Uy;have z9:=Nb V1 wr.heap.size 9 (.slice B2 q.e.sub.length k2) Uy;have pb:=Ja ac oz;have pc:=Ja ac xP
         have wF:∀w',Below V1.heap.size V1 w'->w'.cell? ⟨X,1,none⟩=some (.map (some Bt))/\w'.cell? ⟨wr.heap.size,0,none⟩=some (.string q.name)/\(Instr.lookup 205 (.map (some Bt)) (.string q.name) false).run Tryz.prog w' = .ok (.agg #[.int .i64 ck,.string cs]) w':=fun w' hb=>
          ⟨Ja hb pc,Ja hb z0,Ji1 (Jc2 Tryz.underlying9) Jgn Tryz.underlying205 (Jdv w') ⟨Vy,Ug⟩ (x:= .string q.name) rfl (wE.out.bel (Jd ac hb)) dw ik⟩
         have wH:=Nf wF;have tT:=Nf (lr.out.later ac);have bK:=Nd W V1 (Jd ab ac);have hbVo:=Nd W5 V1 (Jd jF ac);have xQ:=Nd w V1 (Jd aC ac);have tU:=Nf (jW.out.later ac);have l2':=lr.out.1;have m2':=lr.out.2.1;unfold maxLen at m2';have Z0:=Nf z0;have Z6:=Nf z6;have Z7:=Nf z7;have Z8:=Nf z8;have Z9:=Nf z9;have ZX:=Nf pb;have dr:=wF V1.drew (Jh (Nt));clear dq wF z0 z6 z7 z8 z9 pb pc oz xP ik d0' d1' d2' d3' d4' d5' d6' d7' d8' d9' di yy4;refine Kd (fun w'=>w'.cell? ⟨X,1,none⟩=some (.map (some Bt))/\w'.cell? ⟨wr.heap.size,0,none⟩=some (.string q.name)/\(Instr.lookup 205 (.map (some Bt)) (.string q.name) false).run Tryz.prog w' = .ok (.agg #[.int .i64 ck,.string cs]) w') 8 1 Ue Gp ?_;simp only [List.size_toArray,Nl,Nm,Nat.zero_add,Nat.reduceAdd];refine Ji 0 dr ?_;refine Ji 1 dr ?_;refine Ji 2 dr ?_;refine Ji 3 dr ?_;refine Ji 4 dr ?_;refine Ji 5 dr ?_;refine Ji 6 dr ?_;refine Kb 7 ?_;refine Jj fun K hK=>?_;go_simp;refine hK _ _ ⟨wH.out _ (Jh (Jc (Nt) _)),?_⟩;clear hK K
         try simp only [Act.put,sa1,sa2,sa3]
         refine Kh Ue ?_;refine Qx 8 ?_;refine Jj fun K hK=>?_;go_simp;refine hK _ _ ?_;clear hK K
         try simp only [Act.put,sa1,sa2,sa3]
         refine Ki Ue ?_;refine Zc fun V2 bz=>?_;have c0':=Na V2 (wr.heap.size+1) 0 ck (by rw [<-mQ,bz,Xi];go_simp)
         have c1':=Nb V2 (wr.heap.size+1) 1 (.string cs) (by rw [<-mQ,bz,Xi];go_simp)
         have gu:=Nd V1 V2 (by rw [bz];exact Jh (Jc (Nt) _))
         have tV:∀w',Below V2.heap.size V2 w'->w'.cell? ⟨wr.heap.size,6,none⟩=some (.int .i64 q.e.kind)/\w'.cell? ⟨wr.heap.size,7,none⟩=some (.int .i32 q.e.n)/\w'.cell? ⟨wr.heap.size,8,none⟩=some (.string q.e.name)/\w'.cell? ⟨wr.heap.size,9,none⟩=some (.slice B2 q.e.sub.length k2)/\w'.cell? ⟨wr.heap.size+1,0,none⟩=some (.int .i64 ck)/\w'.cell? ⟨wr.heap.size+1,1,none⟩=some (.string cs)/\w'.cell? ⟨X,0,none⟩=some (.map (some Bs))/\w'.cell? ⟨wr.heap.size,0,none⟩=some (.string q.name)/\(Instr.lookup 204 (.map (some Bs)) (.string q.name) false).run Tryz.prog w' = .ok (.int .i32 (sl q.name)) w':=fun w' hb=>
          ⟨Ja hb (Ja gu Z6.out),Ja hb (Ja gu Z7.out),Ja hb (Ja gu Z8.out),Ja hb (Ja gu Z9.out),Ja hb c0',Ja hb c1',Ja hb (Ja gu ZX.out),Ja hb (Ja gu Z0.out),Jcb (Jc2 Tryz.underlying9) (x:= .string q.name) Tryz.underlying204 Tryz.underlying21 (Jbp _) rfl (tS.out.bel (Jd ac (Jd gu hb))) dw (mL.out _ dw)⟩
         have jX:=Nf tV;have HTV:=Nf (tT.out.later gu);have xR:=Nf (tU.out.later gu);have cX:=Nd wr V2 (Jd ac gu);have dk:=tV V2.drew (Jh (Nt));clear dr bz tV c0' c1' wH
         go_wp2_with fail
         refine Kd (fun w'=>w'.cell? ⟨wr.heap.size,6,none⟩=some (.int .i64 q.e.kind)/\w'.cell? ⟨wr.heap.size,7,none⟩=some (.int .i32 q.e.n)/\w'.cell? ⟨wr.heap.size,8,none⟩=some (.string q.e.name)/\w'.cell? ⟨wr.heap.size,9,none⟩=some (.slice B2 q.e.sub.length k2)/\w'.cell? ⟨wr.heap.size+1,0,none⟩=some (.int .i64 ck)/\w'.cell? ⟨wr.heap.size+1,1,none⟩=some (.string cs)/\w'.cell? ⟨X,0,none⟩=some (.map (some Bs))/\w'.cell? ⟨wr.heap.size,0,none⟩=some (.string q.name)/\(Instr.lookup 204 (.map (some Bs)) (.string q.name) false).run Tryz.prog w' = .ok (.int .i32 (sl q.name)) w') 21 1 Ue Gp ?_;simp only [List.size_toArray,Nl,Nm,Nat.zero_add,Nat.reduceAdd];refine Ji 0 dk ?_;refine Ji 1 dk ?_;refine Ji 2 dk ?_;refine Ji 3 dk ?_;refine Ji 4 dk ?_;refine Ji 5 dk ?_;refine Ji 6 dk ?_;refine Ji 8 dk ?_;refine Ji 9 dk ?_;refine Ji 10 dk ?_;refine Ji 11 dk ?_;refine Ji 12 dk ?_;refine Ji 13 dk ?_;refine Ji 14 dk ?_;refine Kb 7 ?_;refine Jj fun K hK=>?_;go_simp;refine(HEX.out V2.drew (xR.out.later (Jh (Nt))) (nE.out.later (Jh (Jd ac gu))) lq).mono ?_;rintro r w4 ⟨⟨A4',c4',rfl,qQ⟩,pg⟩;dsimp only;have qN:=Nd V2 w4 (Jd (Jh (Nt)) pg);refine hK _ _ ⟨jX.out w4 qN,?_⟩;clear hK K
         try simp only [Act.put,sa1,sa2,sa3]
         refine Kb 15 ?_;refine Jj fun K hK=>?_;go_simp;refine(Jcm _ _ _).mono ?_;rintro r w5 ⟨⟨g5',rfl,bP⟩,kN⟩;dsimp only;have ph:=Nd V2 w5 (Jd qN kN);refine hK _ _ ⟨jX.out w5 ph,?_⟩;clear hK K
         try simp only [Act.put,sa1,sa2,sa3]
         refine Kb 16 ?_;refine Jj fun K hK=>?_;go_simp;refine hK _ _ ⟨jX.out _ (Jc ph _),?_⟩;clear hK K
         try simp only [Act.put,sa1,sa2,sa3]
         refine Kb 17 ?_;refine Jj fun K hK=>?_;go_simp;refine(Jl7 (q.e.gen sl fl (ck,cs)) [(3,sl q.name)] A4' c4' (some ⟨g5',0,none⟩) 1 w5 _ (qQ.later kN) bP Ui).mono ?_;rintro r w6 ⟨⟨A6',c6',rfl,oA⟩,pi⟩;dsimp only;have hl6:(q.e.gen sl fl (ck,cs) ++ [((3:Int),sl q.name)]).length<=400:=Fx;have nF:=Nd V2 w6 (Jd ph pi);generalize q.e.gen sl fl (ck,cs) ++ [((3:Int),sl q.name)]=l6 at *;refine hK _ _ ⟨jX.out w6 nF,?_⟩;clear hK K
         try simp only [Act.put,sa1,sa2,sa3]
         refine Kb 18 ?_;refine Jj fun K hK=>?_;go_simp;refine(Jh7 X Bs Bf sl fl ck cs l6 A6' c6' w6 (xR.out.later nF) lq oZ oA Ua).mono ?_;rintro r w7 ⟨⟨A7',c7',rfl,oB⟩,pj⟩;dsimp only;have mR:=Nd V2 w7 (Jd nF pj);refine hK _ _ ⟨jX.out w7 mR,?_⟩;clear hK K
         try simp only [Act.put,sa1,sa2,sa3]
         refine Kb 19 ?_;refine Jj fun K hK=>?_;go_simp;refine hK _ _ ⟨jX.out _ (Jc mR _),?_⟩;clear hK K
         try simp only [Act.put,sa1,sa2,sa3]
         refine Kb 20 ?_;refine Jj fun K hK=>?_;go_simp;refine(Jl7 td (Qk sl (ck,cs) l6) Ao' capo A7' c7' w7 _ (HTV.out.later mR) oB Ua).mono ?_;rintro r w8 ⟨⟨A8',c8',rfl,sA⟩,pk⟩;dsimp only;have rr:=Nd V2 w8 (Jd mR pk);refine hK _ _ ⟨jX.out w8 rr,?_⟩;clear hK K
         try simp only [Act.put,sa1,sa2,sa3]
         refine Kh Ue ?_;refine Qx 21 ?_;refine Jj fun K hK=>?_;go_simp;refine hK _ _ ?_;clear hK K
         try simp only [Act.put,sa1,sa2,sa3]
         refine Ki Ue ?_;have rs:=Nf sA;have jh:=Nd W5 w8 (Jd jF (Jd cX rr));clear dk qQ bP oA oB sA jX
         go_wp2_with fail
         go_roundw
         case rel=>exact⟨k+1,A8',c8',Ua,by rw [HO.out];simp,Uw,Nf (by rw [HO.out];exact rs.out),jh⟩
         case measure=>simp [intOf];omega
        ·obtain rfl:k=(Kot p).1.length:=Ua;rw [List.take_length] at lr;rw [List.take_length]
         have hordl:(Xd sl fl (Je p) p.eqs (Kot p).1).length<=10000:=by
          have:=Jhf sl fl (Je p) p.eqs (fun y hy c=>cC.out.codes y hy sl fl c) (Kot p).1;exact Ua
         have ya:=ab;generalize hOC:Xd sl fl (Je p) p.eqs (Kot p).1=OC at *;have HIO:=lr;have yb:=Nf (xY.out.later jF);have yc:=Nf (xZ.out.later jF);have yy2:=Nb wr w.heap.size 2 (.slice A2 p.outs.length c2) (Ja ab p2);obtain⟨W6,rfl⟩:∃W6,W6=wr:=⟨wr,rfl⟩;clear lr xY xZ
         go_wp2_with fail
         go_loopw [9,179] (fun t i wr=>∃(k:Nat) (A:Option Addr) (cap:Nat),k<=p.outs.length/\t = .slice A (T1 ++ Xl sl 0 (p.outs.take k)).length cap/\i = .int .i64 k/\Hid (Kos wr (T1 ++ Xl sl 0 (p.outs.take k)) A cap)/\Below W6.heap.size W6 wr) (fun _ i _=>p.outs.length-(intOf i).toNat)
         case atStart=>exact⟨0,A',cap',Np,by simp [Xl],rfl,Nf (by rw [show T1 ++ Xl sl 0 (p.outs.take 0)=T1 by simp [Xl]];exact yc.out),Nt⟩
         case round=>
          obtain⟨k,A'',cap'',hk,rfl,rfl,hi,mT⟩:=hrel;have ab:=Nd W wr (Jd ya mT);have bu:=ab.size;have aC:=Nd w wr (Jd dZ ab)
          by_cases am:k<p.outs.length
          ·have hx:p.outs[k]?=some p.outs[k]:=Ng am;have aj:p.outs[k]∈p.outs:=Nj am;have aP:p.outs.take (k+1)=p.outs.take k ++ [p.outs[k]]:=U7;generalize p.outs[k]=x at hx aj aP;have dT:=(nA.out x (by simp [Je,aj])).1;have jN:=cC.out.small.2.1
           have hI:T1 ++ Xl sl 0 (p.outs.take (k+1))=(T1 ++ Xl sl 0 (p.outs.take k)) ++ [(2,sl x.name)] ++ [(7,(k:Int))]:=by
            rw [aP,Jhy,List.length_take,show 0+min k p.outs.length=k from by omega];simp [List.append_assoc]
           have hI2:(T1 ++ Xl sl 0 (p.outs.take k)).length<=30000:=by rw [Nk,Jhh,List.length_take];omega
           obtain⟨b,off,tM,aH,⟨d0',d1',d2',d3'⟩⟩:=(kJ.out.later aC).get hx;have HI:=Nf hI;have xI:IntKind.i32.wrap (k:Int)=(k:Int):=Jbn Vx;have oz:=Ja ab X0;subst tM;clear hx aj aP hI;generalize T1 ++ Xl sl 0 (p.outs.take k)=hd at *;have l2:=hi.out.1;have m2:=hi.out.2.1;unfold maxLen at m2
           go_wp2_with fail
           refine Jo fun V1 dq=>?_;have ac:=Nd wr V1 G0;have z0:=Nb V1 wr.heap.size 0 (.string x.name) Uy;have kM:=Ja ac oz;have bK:=Nd W V1 (Jd ab ac);have hbV6:=Nd W6 V1 (Jd mT ac)
           have hS:∀w',Below V1.heap.size V1 w'->w'.cell? ⟨X,0,none⟩=some (.map (some Bs))/\w'.cell? ⟨wr.heap.size,0,none⟩=some (.string x.name)/\(Instr.lookup 204 (.map (some Bs)) (.string x.name) false).run Tryz.prog w' = .ok (.int .i32 (sl x.name)) w':=fun w' hb=>
            ⟨Ja hb kM,Ja hb z0,Jcb (Jc2 Tryz.underlying9) (x:= .string x.name) Tryz.underlying204 Tryz.underlying21 (Jbp _) rfl (xN.out.bel (Jd bK hb)) dT (mL.out _ dT)⟩
           have HS:=Nf hS;have sw:=Nf (hi.out.later ac);have ar:=hS V1.drew (Jh (Nt));clear dq hS z0 kM oz d0' d1' d2' d3';refine Kd (fun w'=>w'.cell? ⟨X,0,none⟩=some (.map (some Bs))/\w'.cell? ⟨wr.heap.size,0,none⟩=some (.string x.name)/\(Instr.lookup 204 (.map (some Bs)) (.string x.name) false).run Tryz.prog w' = .ok (.int .i32 (sl x.name)) w') 14 1 Ue Gp ?_;simp only [List.size_toArray,Nl,Nm,Nat.zero_add,Nat.reduceAdd];refine Ji 0 ar ?_;refine Ji 1 ar ?_;refine Ji 2 ar ?_;refine Ji 3 ar ?_;refine Ji 4 ar ?_;refine Ji 5 ar ?_;refine Ji 6 ar ?_;refine Ji 7 ar ?_;refine Ji 9 ar ?_;refine Ji 10 ar ?_;refine Kb 8 ?_;refine Jj fun K hK=>?_;go_simp;refine(Jcm _ _ _).mono ?_;rintro r w1 ⟨⟨g1',rfl,dN⟩,eM⟩;dsimp only;have cT:=Nd V1 w1 (Jd (Jh (Nt)) eM);refine hK _ _ ⟨HS.out w1 cT,?_⟩;clear hK K
           try simp only [Act.put,sa1,sa2,sa3]
           refine Kb 11 ?_;refine Jj fun K hK=>?_;go_simp;refine(Jcm _ _ _).mono ?_;rintro r w2 ⟨⟨g2',rfl,dR⟩,iJ⟩;dsimp only;have cF:=Nd V1 w2 (Jd cT iJ);refine hK _ _ ⟨HS.out w2 cF,?_⟩;clear hK K
           try simp only [Act.put,sa1,sa2,sa3]
           refine Kb 12 ?_;refine Jj fun K hK=>?_;go_simp;refine hK _ _ ⟨HS.out _ (Jc cF _),?_⟩;clear hK K
           try simp only [Act.put,sa1,sa2,sa3]
           refine Kb 13 ?_;refine Jj fun K hK=>?_;go_simp;refine(Jxf hd [(2,sl x.name)] [(7,(k:Int))] A'' cap'' (some ⟨g1',0,none⟩) 1 (some ⟨g2',0,none⟩) 1 w2 _ (sw.out.later cF) (dN.later iJ) dR Ui).mono ?_;rintro r w3 ⟨⟨A3',c3',rfl,iI⟩,nD⟩;dsimp only;have cZ:=Nd V1 w3 (Jd cF nD);refine hK _ _ ⟨HS.out w3 cZ,?_⟩;clear hK K
           try simp only [Act.put,sa1,sa2,sa3]
           refine Kh Ue ?_;refine Qx 14 ?_;refine Jj fun K hK=>?_;go_simp;refine hK _ _ ?_;clear hK K
           try simp only [Act.put,sa1,sa2,sa3]
           refine Ki Ue ?_
           go_wp2_with fail
           go_roundw
           case rel=>exact⟨k+1,A3',c3',Ua,by rw [HI.out];simp,Uw,Nf (by rw [HI.out];exact iI),Jd hbV6 cZ⟩
           case measure=>simp [intOf];omega
          ·obtain rfl:k=p.outs.length:=Ua;rw [List.take_length] at hi;rw [List.take_length];have htt:(T1 ++ Xl sl 0 p.outs).length<=30000:=by rw [Nk,Jhh];have:=cC.out.small.2.1;omega
           generalize hTT:T1 ++ Xl sl 0 p.outs=TT at *;have yd:=Nf (yb.out.later mT);have ye:=Nf (HIO.out.later mT);have qR:(H1 ++ OC ++ TT).length=(Xs p).length:=by rw [HCD.out]
           have ay:=Jwq H1 OC TT _ _ _ _ _ _ wr 27 yd.out ye.out hi.out Ua
           have yf:∀wz,Below wr.heap.size wr wz->Jzs w W wz p A1 A2 c1 c2 wa X Bs:=fun wz gt=>by
            have hb:=Nd W wz (Jd ab gt)
            exact⟨Jd aC gt,Ds,Ds,
             ⟨Ja hb g0,Ja hb g1,Ja hb g2,Ja hb g3,Ja hb g4⟩,⟨Ja hb d0,Ja hb d1,Ja hb d2⟩,⟨Ja hb q0,Ja hb q1,Ja hb q2⟩,
             fun o ho=>(Jf hb _ _ Ua).trans (by rcases ho with rfl|rfl|rfl|rfl|rfl <;> assumption),fun o ho=>(Jf hb _ _ Ua).trans (by rcases ho with rfl|rfl|rfl <;> assumption),
             Ja hb p1,Ja hb p2,Ja hb X0,fun w' he=>((kL.out.later hb).slots.keep1 he).lenRun Tryz.underlying204 _,fun he=>Qd.cellsNo (kL.out.later hb).slots (v:= .int .i64 0) (o:=0) (by rw [he];exact Ja hb g0)⟩
           have HWZ:=Nf yf;have jZ:=Nf ay;have wJ:=Nf qR;generalize H1 ++ OC ++ TT=LL at *;clear yf ay qR dp fM cC oV nA lN eL oU kJ qO kL oX xN mL mO yd ye hi HIO yb yc;clear g0 g1 g2 g3 g4 f0 f1 f2 f3 f4 d0 d1 d2 e0 e1 e2 q0 q1 q2 p0 p1 p2 p3 p4 X0 X1
           by_cases lR:600<LL.length
           ·have t600:(600:Int)<(LL.length:Int):=Ua
            go_wp2_with (first|(go_at_call 102;go_loud (refine jZ.out.mono ?_;rintro r wz ⟨⟨vz,rfl,fh⟩,gt⟩;obtain⟨Az,cz,rfl,yg,yh⟩:=Jv fh;obtain⟨jh,z1,z2,⟨g0,g1,g2,g3,g4⟩,⟨d0,d1,d2⟩,⟨q0,q1,q2⟩,fg,fd,p1,p2,x0,yi,nB⟩:=HWZ.out wz gt;have f0:=fg 0 Uh;have f1:=fg 1 Uh;have f2:=fg 2 Uh;have f3:=fg 3 Uh;have f4:=fg 4 Uh;have e0:=fd 0 Uh;have e1:=fd 1 Uh;have e2:=fd 2 Uh;clear fg fd gt;clear fh yi p1 p2 x0 q0 q1 q2)))
            refine Nv (v:= .tuple #[.slice none 0 0,.agg #[.int .i64 0,.int .i64 0,.int .i64 0,.int .i64 0,.int .i64 0],.agg #[.int .i64 4,.int .i64 0,.int .i64 3]]) Gu rfl ?_;unfold Jgs;rw [HCD.out,if_pos lR];exact⟨rfl,Qq _ _ _ (Jdj _ _ _ _ _ jh Ua) Ua⟩
           ·have t600:¬(600:Int)<(LL.length:Int):=Ua
            go_wp2_with (first|(go_at_call 102;go_loud (refine jZ.out.mono ?_;rintro r wz ⟨⟨vz,rfl,fh⟩,gt⟩;obtain⟨Az,cz,rfl,yg,yh⟩:=Jv fh;obtain⟨jh,z1,z2,⟨g0,g1,g2,g3,g4⟩,⟨d0,d1,d2⟩,⟨q0,q1,q2⟩,fg,fd,p1,p2,x0,yi,nB⟩:=HWZ.out wz gt;have f0:=fg 0 Uh;have f1:=fg 1 Uh;have f2:=fg 2 Uh;have f3:=fg 3 Uh;have f4:=fg 4 Uh;have e0:=fd 0 Uh;have e1:=fd 1 Uh;have e2:=fd 2 Uh;clear fg fd gt;have hX:X≠w.heap.size+1:=(fun he=>by rw [he,g0] at x0;cases x0);have HLN:=Nf yi;have ar:(fun w':World=>w'.cell? ⟨X,0,none⟩=some (.map (some Bs))/\w'.cell? ⟨w.heap.size,1,none⟩=some (.slice A1 p.ins.length c1)/\w'.cell? ⟨w.heap.size,2,none⟩=some (.slice A2 p.outs.length c2)/\w'.cell? ⟨wa.heap.size,0,none⟩=some (.int .i64 0)/\w'.cell? ⟨wa.heap.size,1,none⟩=some (.int .i64 0)/\w'.cell? ⟨wa.heap.size,2,none⟩=some (.int .i64 0)/\(Builtin.len_ #[204] 3 #[.map (some Bs)]).run Tryz.prog w' = .ok (.int .i64 ((Je p).length:Nat)) w') wz.drew:=⟨x0,p1,p2,q0,q1,q2,yi wz.drew rfl⟩;dsimp only at ar;clear yi)))
            refine Kd (fun w'=>w'.cell? ⟨X,0,none⟩=some (.map (some Bs))/\w'.cell? ⟨w.heap.size,1,none⟩=some (.slice A1 p.ins.length c1)/\w'.cell? ⟨w.heap.size,2,none⟩=some (.slice A2 p.outs.length c2)/\w'.cell? ⟨wa.heap.size,0,none⟩=some (.int .i64 0)/\w'.cell? ⟨wa.heap.size,1,none⟩=some (.int .i64 0)/\w'.cell? ⟨wa.heap.size,2,none⟩=some (.int .i64 0)/\(Builtin.len_ #[204] 3 #[.map (some Bs)]).run Tryz.prog w' = .ok (.int .i64 ((Je p).length:Nat)) w') 20 1 Ue Gp ?_;simp only [List.size_toArray,Nl,Nm,Nat.zero_add,Nat.reduceAdd];refine Ji 0 ar ?_;refine Ji 1 ar ?_;refine Ji 2 ar ?_;refine Ji 3 ar ?_;refine Ji 4 ar ?_;refine Ji 5 ar ?_;refine Ji 6 ar ?_;refine Ji 7 ar ?_;refine Ji 8 ar ?_;refine Ji 9 ar ?_;refine Ji 10 ar ?_;refine Ji 11 ar ?_;refine Ji 12 ar ?_;refine Ji 13 ar ?_;refine Ji 14 ar ?_;refine Ji 15 ar ?_;refine Ji 16 ar ?_;refine Ji 17 ar ?_;refine Ji 18 ar ?_;refine Kb 19 ?_;refine Jj fun K hK=>?_;go_simp;have HS5:=Jz4 (v0:= .int .i64 ((Je p).length:Nat)) (v1:= .int .i64 ((Jq p).length:Nat)) (v2:= .int .i64 ((Jq p).length:Nat)) (v3:= .int .i64 (p.ins.length:Nat)) (v4:= .int .i64 (p.outs.length:Nat)) hX x0 p1 p2 q0 q1 q2 Ua Ua HLN.out nB;refine hK _ _ ⟨HS5,Kh Ue ?_⟩;clear hK K HS5
            try simp only [Act.put,sa1,sa2,sa3]
            refine Jgr fun W1 bt=>?_;have ac:=Nd w W1 (by rw [bt];exact Jh (Jdj _ _ _ _ _ jh Ua))
            have cD:J6 (fun b=>b=w.heap.size+1\/b=w.heap.size+1+1) wz W1:=by rw [bt];exact((((((J6.refl wz).setCell (.inl rfl) _ _).setCell (.inl rfl) _ _).setCell (.inl rfl) _ _).setCell (.inl rfl) _ _).setCell (.inl rfl) _ _).trans' (J6.bel (Jh (Nt)))
            obtain⟨r0,r1,r2,r3,r4⟩:=Jsy (W:=wz) (.int .i64 ((Je p).length:Nat)) (.int .i64 ((Jq p).length:Nat)) (.int .i64 ((Jq p).length:Nat)) (.int .i64 (p.ins.length:Nat)) (.int .i64 (p.outs.length:Nat)) g0 g1 g2 g3 g4;have R:∀b o,W1.cell? ⟨b,o,none⟩=(((((wz.setCell ⟨w.heap.size+1,0,none⟩ (.int .i64 ((Je p).length:Nat))).setCell ⟨w.heap.size+1,1,none⟩ (.int .i64 ((Jq p).length:Nat))).setCell ⟨w.heap.size+1,2,none⟩ (.int .i64 ((Jq p).length:Nat))).setCell ⟨w.heap.size+1,3,none⟩ (.int .i64 (p.ins.length:Nat))).setCell ⟨w.heap.size+1,4,none⟩ (.int .i64 (p.outs.length:Nat))).cell? ⟨b,o,none⟩:=fun b o=>by rw [bt,Xi]
            have RF:∀p,W1.frozen? p=wz.frozen? p:=fun p=>by
             rw [bt,Jdn];exact Ji7 (W:=wz) (b:=w.heap.size+1) _ _ _ _ _ p
            have s0:=(R _ _).trans r0;have s1:=(R _ _).trans r1;have s2:=(R _ _).trans r2;have s3:=(R _ _).trans r3;have s4:=(R _ _).trans r4;have t0:=((R _ _).trans (Q8 _ _ _ _ _ Ua)).trans d0;have t1:=((R _ _).trans (Q8 _ _ _ _ _ Ua)).trans d1;have t2:=((R _ _).trans (Q8 _ _ _ _ _ Ua)).trans d2;have z0:=(RF _).trans e0;have z1':=(RF _).trans e1;have z2':=(RF _).trans e2;clear bt R RF r0 r1 r2 r3 r4 ar g0 g1 g2 g3 g4 f0 f1 f2 f3 f4 d0 d1 d2 e0 e1 e2 q0 q1 q2 x0 p1 p2 HLN HWZ jZ;refine Qx 20 ?_;refine Jj fun K hK=>?_;go_simp;refine hK _ _ ?_;clear hK K
            try simp only [Act.put,sa1,sa2,sa3]
            refine Ki Ue ?_;refine Zc fun W2 gi=>?_;obtain⟨r0,r1,r2⟩:=Jp5 (W:=W1) (.int .i64 0) (.int .i64 0) (.int .i64 0) t0 t1 t2;have R:∀b o,W2.cell? ⟨b,o,none⟩=(((W1.setCell ⟨w.heap.size+1+1,0,none⟩ (.int .i64 0)).setCell ⟨w.heap.size+1+1,1,none⟩ (.int .i64 0)).setCell ⟨w.heap.size+1+1,2,none⟩ (.int .i64 0)).cell? ⟨b,o,none⟩:=fun b o=>by rw [gi]
            have aq:=Nd w W2 (by rw [gi];exact Qq _ _ _ ac Ua)
            have dz:J6 (fun b=>b=w.heap.size+1\/b=w.heap.size+1+1) wz W2:=by rw [gi];exact(((cD.setCell (.inr rfl) _ _).setCell (.inr rfl) _ _).setCell (.inr rfl) _ _)
            have ao:=K8 (dz.own (fun b hb h=>by have:=(fh.lt b hb).1;omega) fh) (show w.heap.size<=wr.heap.size by omega);have x0:=(R _ _).trans r0;have x1:=(R _ _).trans r1;have x2:=(R _ _).trans r2;have y0:=((R _ _).trans (Qy _ _ _ Ua)).trans s0;have y1:=((R _ _).trans (Qy _ _ _ Ua)).trans s1;have y2:=((R _ _).trans (Qy _ _ _ Ua)).trans s2;have y3:=((R _ _).trans (Qy _ _ _ Ua)).trans s3;have y4:=((R _ _).trans (Qy _ _ _ Ua)).trans s4;clear gi R r0 r1 r2 s0 s1 s2 s3 s4 t0 t1 t2 z0 z1' z2' cD dz
            go_wp2_with fail
            refine Nv (v:= .tuple #[.slice Az LL.length cz,.agg #[.int .i64 ((Je p).length:Nat),.int .i64 ((Jq p).length:Nat),.int .i64 ((Jq p).length:Nat),.int .i64 (p.ins.length:Nat),.int .i64 (p.outs.length:Nat)],.agg #[.int .i64 0,.int .i64 0,.int .i64 0]]) Gu rfl ?_;unfold Jgs;rw [HCD.out,if_neg lR];exact⟨⟨_,rfl,ao⟩,aq⟩
end Go.Proofs.YtdgjplldlfeolaaGreatDoor
