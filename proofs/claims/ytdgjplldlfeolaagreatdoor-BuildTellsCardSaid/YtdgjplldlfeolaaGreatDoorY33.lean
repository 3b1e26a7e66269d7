/- Lemmas. -/
import Derived.Test.YtdgjplldlfeolaaGreatDoorMac
import Derived.Test.YtdgjplldlfeolaaGreatDoorY30
import Derived.Test.YtdgjplldlfeolaaGreatDoorY32
import Derived.Test.YtdgjplldlfeolaaGreatDoorY01
import Derived.Test.YtdgjplldlfeolaaGreatDoorY23
import Derived.Test.YtdgjplldlfeolaaGreatDoorY10
import Derived.BigRegion
set_option linter.unusedVariables false
set_option linter.unusedSimpArgs false
set_option maxRecDepth 100000
set_option maxHeartbeats 64000000
namespace Go.Proofs.YtdgjplldlfeolaaGreatDoor
open Go.RowKit Go.Sort Go.Maps Go.ChangeMaps Go.WideMaps
theorem Jta (p:Pr) (a:PrA) (w:World) (hg:Ql w) (hp:Kr w p a) (aw:Ke5 p) (n1:p.ins.length<=1000000) (n2:p.outs.length<=1000000) (n3:p.locals.length<=1000000) (n4:p.eqs.length<=1000000) (aN:Ks p≠(0,0,0)) :
  Calls Tryz.prog 117 #[prV p a] w fun r w'=>r = .returned (.tuple #[.pointer none,fV (Ks p)])/\Below w.heap.size w w':=by
 have aV:=fun W h=>Jk3 p a W (hg.later h) (hp.later h) aw n1 n2 n3 n4
 have aS:((Ks p).1 == 0 && (Ks p).2.1 == 0 && (Ks p).2.2 == 0)=false:=by
  exact Uaz
 have dp:∀w,(Op.equalIn 10000 32 (.agg #[.int .i64 (Ks p).1,.int .i64 (Ks p).2.1,.int .i64 (Ks p).2.2]) (.agg #[.int .i64 0,.int .i64 0,.int .i64 0])).run Tryz.prog w = .ok false w:=fun w=>by rw [Zr,aS]
 have fM:Tryz.prog.eqGuardType Tryz.prog.depth 32=false:=Ue;clear aN aS;obtain⟨A1,c1,A2,c2,A3,c3,A4,c4⟩:=a;unfold prV fV at *;dsimp only at *;generalize (Ks p).1=k1 at *;generalize (Ks p).2.1=k2 at *;generalize (Ks p).2.2=k3 at *;clear hg hp aw n1 n2 n3 n4
 go_enter Tryz.func117,Tryz.ntmps117
 go_wp2_with (first|(go_at_call 128;refine(aV _ Jb).mono ?_;rintro r wa ⟨rfl,aA⟩;have aW:=Jg aA;have bS:=Jf aA;have cN:w.heap.size+2<=wa.heap.size:=U3;have dG:=lt0 w wa;have aX:=ltA w 1 wa))
 go_region
 all_goals
  go_wp2_with fail
  refine Nv (v:= .tuple #[.pointer none,.agg #[.int .i64 k1,.int .i64 k2,.int .i64 k3]]) Gk rfl ⟨rfl,?_⟩
  (repeat refine Jh ?_)
  exact Km
def Jkv (p:Pr) (w:World) (r:Ending) (w':World):Prop:=
 (if 16<(Jq p).length then r = .returned (.tuple #[.pointer none,fV (4,0,3)]) else ∃X v,r = .returned (.tuple #[.pointer (some ⟨X,0,none⟩),fV (0,0,0)])/\w'.cell? ⟨X,6,none⟩=some v/\w'.ownsRow w.heap.size 212 4 v (Jq p).length (X7 (Jq p)))/\Below w.heap.size w w'
theorem Jdv (w:World):(zeroValue 81).run Tryz.prog w = .ok (kvC (0,⟨#[]⟩)) w:=Ue
theorem Jla (p:Pr) (a:PrA) (w:World) (hg:Ql w) (hp:Kr w p a) (aw:Ke5 p) (n1:p.ins.length<=1000000) (n2:p.outs.length<=1000000) (n3:p.locals.length<=1000000) (n4:p.eqs.length<=1000000) (aN:Ks p=(0,0,0)) :
  Calls Tryz.prog 117 #[prV p a] w (Jkv p w):=by
 have bO:=Jff aN;have aV:=fun W h=>Jk3 p a W (hg.later h) (hp.later h) aw n1 n2 n3 n4;have eL:=fun W h=>Jfr p a W (hg.later h) (hp.later h) aw n1 n2 n3 n4;have aJ:=fun W h=>Jcv p a W (hp.later h) n1 n2 n3;rw [aN] at aV;have dp:∀w,(Op.equalIn 10000 32 (.agg #[.int .i64 0,.int .i64 0,.int .i64 0]) (.agg #[.int .i64 0,.int .i64 0,.int .i64 0])).run Tryz.prog w = .ok true w:=fun w=>So;have fM:Tryz.prog.eqGuardType Tryz.prog.depth 32=false:=Ue;have qO:=Nf hp.eqs;have kc:=Nf aw.eqs;have cG:=hp.eqs.len;unfold maxLen at cG;obtain⟨fT,fU⟩:=cG;obtain⟨A1,c1,A2,c2,A3,c3,A4,c4⟩:=a;unfold prV fV at *;dsimp only at *;have gI:=@run_makeMap Tryz.prog;clear aN hg hp aw
 go_enter Tryz.func117,Tryz.ntmps117
 go_wp2_with (first|(go_at_call 128;refine(aV _ Jb).mono ?_;rintro r wa ⟨rfl,aA⟩;have aW:=Jg aA;have bS:=Jf aA;have cN:w.heap.size+2<=wa.heap.size:=U3;have dG:=lt0 w wa;have aX:=ltA w 1 wa))
 refine Jo fun W0 ag=>?_;have ax:=Nd w W0 Uz;have aQ:=Nd wa W0 Uz;have bD:W0.heap.size=wa.heap.size+5:=Vu;have p0:=Nb W0 w.heap.size 0 (.string p.name) (Ja aQ Ucb);have p1:=Nb W0 w.heap.size 1 (.slice A1 p.ins.length c1) (Ja aQ Ucb);have p2:=Nb W0 w.heap.size 2 (.slice A2 p.outs.length c2) (Ja aQ Ucb);have p3:=Nb W0 w.heap.size 3 (.slice A3 p.locals.length c3) (Ja aQ Ucb);have p4:=Nb W0 w.heap.size 4 (.slice A4 p.eqs.length c4) (Ja aQ Ucb);have g0:=Na W0 (w.heap.size+1) 0 0 (Ja aQ Ucb);have g1:=Na W0 (w.heap.size+1) 1 0 (Ja aQ Ucb);have g2:=Na W0 (w.heap.size+1) 2 0 (Ja aQ Ucb);have f0:=Nc W0 (w.heap.size+1) 0 ((Jf aQ _ _ aX).trans ((bS _ _ Uh).trans Uc));have f1:=Nc W0 (w.heap.size+1) 1 ((Jf aQ _ _ aX).trans ((bS _ _ Uh).trans Uc));have f2:=Nc W0 (w.heap.size+1) 2 ((Jf aQ _ _ aX).trans ((bS _ _ Uh).trans Uc));have bx0:=Nb W0 (wa.heap.size+1+1+1+1) 0 (.pointer (some ⟨wa.heap.size+1+1+1,0,none⟩)) Uf;have x5:=Nb W0 (wa.heap.size+1+1+1) 5 (.map (some (wa.heap.size+1))) Uf;have x6:=Nb W0 (wa.heap.size+1+1+1) 6 (.slice none 0 0) Uf;have x7:=Nb W0 (wa.heap.size+1+1+1) 7 (.map (some (wa.heap.size+1+1))) Uf;have x8:=Nb W0 (wa.heap.size+1+1+1) 8 (.slice none 0 0) Uf;have fx6:=Nc W0 (wa.heap.size+1+1+1) 6 Uf;have fx8:=Nc W0 (wa.heap.size+1+1+1) 8 Uf
 have wC:Qd Tryz.prog 9 clkR okS klS okC klC (0,⟨#[]⟩) W0 (wa.heap.size+1) 0 (fun _=>none) 0:=by
  have h1:=Qd.made (P:=Tryz.prog) (k:=9) (R:=clkR) (ok:=okS) (kl:=klS) (okv:=okC) (vl:=klC) (z:=((0:Int),(⟨#[]⟩:ByteArray))) ⟨Vy,Ug⟩ (wa.alloc (.cells #[.int .i64 0,.int .i64 0,.int .i64 0] 32));have h2:=h1.bel (w':=W0) Uz;exact Lw
 have gZ:Q3 Tryz.prog 81 3 .i64 okC klC W0 (wa.heap.size+1+1) 0 (fun _=>none) 0:=by
  have h1:=Q3.made (P:=Tryz.prog) (k:=81) (e:=3) (q:= .i64) (ok:=okC) (kl:=klC) ((wa.alloc (.cells #[.int .i64 0,.int .i64 0,.int .i64 0] 32)).alloc (.map #[] 0));have h2:=h1.bel (w':=W0) Uz;exact Lw
 generalize fk:wa.heap.size+1+1+1+1=bx at *;generalize hXX:wa.heap.size+1+1+1=X at *;generalize hFF:wa.heap.size+1+1=F at *;generalize hBt:wa.heap.size+1=Bt at *;have wE:=Nf wC;have HMF:=Nf gZ;clear ag wC gZ aW bS gI aV
 have hS:∀w',J6 (fun k=>k=X) W0 w'->w'.cell? ⟨bx,0,none⟩=some (.pointer (some ⟨X,0,none⟩))/\w'.cell? ⟨w.heap.size,0,none⟩=some (.string p.name)/\w'.cell? ⟨w.heap.size,1,none⟩=some (.slice A1 p.ins.length c1)/\w'.cell? ⟨w.heap.size,2,none⟩=some (.slice A2 p.outs.length c2)/\w'.cell? ⟨w.heap.size,3,none⟩=some (.slice A3 p.locals.length c3)/\w'.cell? ⟨w.heap.size,4,none⟩=some (.slice A4 p.eqs.length c4):=
  fun w' hk=>⟨hk.cell Ua bx0,hk.cell Ua p0,hk.cell Ua p1,hk.cell Ua p2,hk.cell Ua p3,hk.cell Ua p4⟩
 have HS:=Nf hS;clear hS
 go_region_held3 (fun w'=>w'.cell? ⟨bx,0,none⟩=some (.pointer (some ⟨X,0,none⟩))/\w'.cell? ⟨w.heap.size,0,none⟩=some (.string p.name)/\w'.cell? ⟨w.heap.size,1,none⟩=some (.slice A1 p.ins.length c1)/\w'.cell? ⟨w.heap.size,2,none⟩=some (.slice A2 p.outs.length c2)/\w'.cell? ⟨w.heap.size,3,none⟩=some (.slice A3 p.locals.length c3)/\w'.cell? ⟨w.heap.size,4,none⟩=some (.slice A4 p.eqs.length c4))
  (first|exact HS.out _ (J6.bel (Jh (Nt)))|exact HS.out _ cD|exact HS.out _ (cD.setCell rfl _ _))
  (first|(go_at_call 106;refine(eL _ (Jh ax)).mono ?_;rintro r w1 ⟨⟨vo,rfl,ae⟩,ac⟩;have cD:J6 (fun k=>k=X) W0 w1:=J6.bel (Jd (Jh (Nt)) ac);obtain⟨Ao,co,rfl,xW,tW⟩:=Jv ae;have y8:=Nb w1 X 8 (.slice none 0 0) (Ja (Jd (Jh (Nt)) ac) x8);have fy8:=Nc w1 X 8 (((Jf (Jd (Jh (Nt)) ac)) X 8 Ua).trans fx8)))
 refine Zc fun W1 bt=>?_;have aH:=Nd W0 w1 (Jd (Jh (Nt)) ac);have jw:J6 (fun k=>k=X) W0 W1:=by rw [bt];exact cD.setCell rfl _ _
 have hX8:∀o,o≠8->W1.cell? ⟨X,o,none⟩=w1.cell? ⟨X,o,none⟩:=fun o ho=>by rw [bt];exact World.cell?_setCell_other _ _ _ _ Vz
 have hzA:=jw.size;have q5:=(hX8 5 Ug).trans (Ja aH x5);have q6:=(hX8 6 Ug).trans (Ja aH x6);have q7:=(hX8 7 Ug).trans (Ja aH x7);have fq6:=Nc W1 X 6 (by rw [bt,World.frozen?_setCell];exact(Jf aH X 6 Ua).trans fx6)
 have q0:=jw.cell Ua bx0;have r0:=jw.cell Ua p0;have r1:=jw.cell Ua p1;have r2:=jw.cell Ua p2;have r3:=jw.cell Ua p3;have r4:=jw.cell Ua p4;have s0:=jw.cell Ua g0;have s1:=jw.cell Ua g1;have s2:=jw.cell Ua g2;have t0:=Nc W1 (w.heap.size+1) 0 ((World.frozen?_of_block (a:=⟨w.heap.size+1,0,none⟩) (jw.block (w.heap.size+1) Ua Ua)).trans f0);have t1:=Nc W1 (w.heap.size+1) 1 ((World.frozen?_of_block (a:=⟨w.heap.size+1,1,none⟩) (jw.block (w.heap.size+1) Ua Ua)).trans f1);have t2:=Nc W1 (w.heap.size+1) 2 ((World.frozen?_of_block (a:=⟨w.heap.size+1,2,none⟩) (jw.block (w.heap.size+1) Ua Ua)).trans f2);have hbA:=Nd w W1 (J6.below ax jw (fun k hk he=>Ua));have zJ:=Nf (wE.out.keep1 (jw.block Bt Ua Ua));have HMF1:=Nf (HMF.out.keep1 (jw.block F Ua Ua));clear cD hX8 bt aH ac y8 fy8 ae wE HMF HS jw x5 x6 x7 x8 fx6 fx8 bx0 p0 p1 p2 p3 p4 g0 g1 g2 f0 f1 f2 eL aA aQ dG aX
 go_wp2_with (first|(go_at_call 118;go_loud (refine(aJ _ hbA).mono ?_;rintro r wb ⟨⟨Av,cv,rfl,ae⟩,aH⟩;have el:=Jg aH;have dH:=aH.size;have cR:=Ju.of_own ae)))
 have cY:=cR.len;unfold maxLen at cY;obtain⟨fH,fI⟩:=cY;have hL3:(Je p).length<=24:=bO.small.2.2.1;have HNV:=Nf bO.nodup;have HVF:=Nf bO.vars;have cC:=Nf bO;generalize qR:Je p=L at *;have yC:=Nf (Ju.off_own' ae);have rI:=Nf (zJ.out.bel aH);have q0':=Ja aH q0;have q5':=Ja aH q5;have hBtW:Bt<W1.heap.size:=Ua;clear ae cR aJ bO zJ el
 go_loopw [38] (fun i wr=>∃k:Nat,k<=L.length/\i = .int .i64 k/\Hid (Qd Tryz.prog 9 clkR okS klS okC klC (0,⟨#[]⟩) wr Bt k (Jcq (L.take k)) k)/\Hid (J6 (fun k=>k=Bt) wb wr)) (fun i _=>L.length-(intOf i).toNat)
 case atStart=>exact⟨0,Np,rfl,rI,Nf (J6.refl _)⟩
 case round=>
  obtain⟨k,hk,rfl,lJ,sT⟩:=hrel;have iG:=sT.out.size;have y0:=Nb wr bx 0 (.pointer (some ⟨X,0,none⟩)) (sT.out.cell Ua q0')
  by_cases am:k<L.length
  ·have y5:=Nb wr X 5 (.map (some Bt)) (sT.out.cell Ua q5');have hx:L[k]?=some L[k]:=Ng am;have aj:L[k]∈L:=Nj am;have aP:L.take (k+1)=L.take k ++ [L[k]]:=U7;generalize L[k]=x at hx aj aP;have jg:Ju wr L Av cv:=Jp6 yC.out sT.out (fun j h1 h2 h3=>Ua);obtain⟨b,off,rfl,bG,⟨d0,d1,d2,d3⟩⟩:=jg.get hx;have dT:=HVF.out x aj;have fE:okS x.name:=by unfold okS;have:=dT.name;unfold maxLen;omega
   have pZ:okC (x.ck,x.cn):=⟨by unfold I64;have:=dT.ck;omega,by have:=dT.cn;unfold maxLen;dsimp only;omega⟩;have HNW:=Nf (Jid HNV.out hx);have eZ:=Nf aP;clear hx aj aP jg dT q0' q5'
   go_wp2_with fail
   refine Jo fun V1 dq=>?_;have ac:=Nd wr V1 G0;have af:wr.heap.size+1=V1.heap.size:=Td;have x0:=Nb V1 wr.heap.size 0 (.string x.name) Uy;have x2:=Na V1 wr.heap.size 2 x.ck Uy;have x3:=Nb V1 wr.heap.size 3 (.string x.cn) Uy;have v0:=Ja ac y0;have v5:=Ja ac y5;obtain⟨u0,st,o0,o1,o2,h0,ro,lK,lp,iy⟩:=Qd.steps (Jc2 Tryz.underlying9) (string_law Tryz.underlying9) Jgn Tryz.underlying205 (fun u=>Jdv u) (lJ.out.bel ac) fE Ua (v:=(x.ck,x.cn)) pZ;unfold kvC at lp;dsimp only at lp;have a1:=lp V1.drew h0;have mL:=Nf iy;clear ro lK lp h0 iy dq d0 d1 d2 d3 y0 y5
   go_region
   refine Zc fun W2 gi=>?_;have k1:W2.heap[Bt]?=some o2:=by rw [gi];exact Xc _ _ _ (by show Bt<V1.heap.size;omega)
   have aG:V1.grownBy W2 (some Bt):=by rw [gi];exact Kv (K0 (Jh (Nt))) (Jgd V1.drew _ _)
   have iH:=Jlc x.name (L.take k) HNW.out;have r1:=mL.out W2 k1 (Jcq (L.take (k+1))) (by rw [eZ.out,Jce,if_pos rfl]) (fun y _ hy=>G5);rw [iH] at r1;have R1:=Nf r1;have R2:=Nf ((sT.out.trans' (J6.bel ac)).trans' (J6.grown aG fun k hk=>Df));clear gi k1 aG iH r1 a1
   go_wp2_with fail
   go_roundw
   case rel=>exact⟨k+1,Ua,Uw,R1,R2⟩
   case measure=>simp [intOf];omega
  ·obtain rfl:k=L.length:=Ua;obtain⟨Wa,rfl⟩:∃Wa,Wa=wr:=⟨wr,rfl⟩;have gJ:=lJ.out;rw [List.take_length] at gJ;have HT1:=Nf gJ;clear gJ lJ;have gI:=@run_makeMap Tryz.prog;have yW:=lt0 w Wa;have yW1:w.heap.size<Wa.heap.size+1:=Ua;have y4:=Nb Wa w.heap.size 4 (.slice A4 p.eqs.length c4) (sT.out.cell Ua (Ja aH r4))
   go_wp2_with fail
   refine Jo fun V0 sM=>?_;have bK:=Nd Wa V0 (by rw [sM];exact Jb)
   have mQ:V0.heap.size=Wa.heap.size+2:=by rw [sM];simp
   have m0:=Nb V0 (Wa.heap.size+1) 0 (.map (some Wa.heap.size)) (by rw [sM];go_simp)
   have hmM:Q3 Tryz.prog 81 3 .i64 okC klC V0 Wa.heap.size 0 (fun _=>none) 0:=by
    have h1:=Q3.made (P:=Tryz.prog) (k:=81) (e:=3) (q:= .i64) (ok:=okC) (kl:=klC) Wa;exact h1.bel (by rw [sM];exact Jb)
   clear gI sM;generalize iQ:Wa.heap.size+1=bm at *;generalize hMM:Wa.heap.size=M at *;have sU:J6 (fun k=>k=Bt) W1 V0:=((J6.bel (S:=fun k=>k=Bt) aH).trans' sT.out).trans' (J6.bel (by rw [hMM];exact bK));have cX:=Nd w V0 (J6.below hbA sU (fun j hj he=>Ua));have v0:=sU.cell Ua q0;have v5:=sU.cell Ua q5;have v6:=sU.cell Ua q6;have v7:=sU.cell Ua q7;have fv6:=Nc V0 X 6 ((World.frozen?_of_block (a:=⟨X,6,none⟩) (sU.block X Ua Ua)).trans fq6);have uS:=Nf (HT1.out.keep1 (w':=V0) (bK.block Bt Ua));have HMM:=Nf hmM;have zK:=Nf sU;have zL:=bK;rw [<-hMM] at zL;clear hmM sU HT1 y0 y4 bK
   go_loopw [55] (fun i wr=>∃(k:Nat) (v:Value) (nM:Nat) (f:Int×ByteArray->Option Int) (c:Nat),k<=p.eqs.length/\i = .int .i64 k/\Hid (J6 (fun j=>j=X\/j=M) V0 wr)/\Hid (∀o,o≠6->wr.cell? ⟨X,o,none⟩=V0.cell? ⟨X,o,none⟩)/\Hid (wr.cell? ⟨X,6,none⟩=some v)/\Hid (wr.frozen? ⟨X,6,none⟩=false)/\
     Hid (wr.ownsRow V0.heap.size 212 4 v ((J0 (p.eqs.take k)).map (Xm L)).length (X7 ((J0 (p.eqs.take k)).map (Xm L))))/\Hid (Q3 Tryz.prog 81 3 .i64 okC klC wr M nM f c)/\nM<=120 * k/\Hid (Jdf f (Jad L (p.eqs.take k)))) (fun i _=>p.eqs.length-(intOf i).toNat)
   case atStart=>exact⟨0,_,0,_,0,Np,rfl,Nf (J6.refl _),Nf (fun _ _=>rfl),Nf v6,Nf fv6,Nf (Nw),HMM,Np,Nf Jw9⟩
   case round=>
    obtain⟨k,v,nM,f,c,dz,rfl,gC,wX,rJ,hf6,ao,rK,hnM,fL⟩:=hrel;have ir:=gC.out.size;have y0:=Nb wr bx 0 (.pointer (some ⟨X,0,none⟩)) (gC.out.cell Ua v0);have ym:=Nb wr bm 0 (.map (some M)) (gC.out.cell Ua m0);have y5:=(wX.out 5 Ug).trans v5;have y7:=(wX.out 7 Ug).trans v7;have dh:=Nd w wr (J6.below cX gC.out (fun j hj he=>Ua))
    by_cases dO:k<p.eqs.length
    ·have hx:p.eqs[k]?=some p.eqs[k]:=Ng dO;have aj:p.eqs[k]∈p.eqs:=Nj dO;have aP:p.eqs.take (k+1)=p.eqs.take k ++ [p.eqs[k]]:=by rw [List.take_succ_eq_append_getElem dO]
     generalize p.eqs[k]=q at hx aj aP;have cM:=cC.out.eqs q aj;have aN:=cC.out.clock aj;rw [qR] at aN;have rL:=kc.out q aj;obtain⟨b,off,B1,k1,B2,k2,rfl,bG,⟨g0,g1,g2,g3,g4,g5,g6,g7,g8,g9,sf,se⟩⟩:=qO.out.get hx;have dZ:b<wr.heap.size:=Ua;have d0:=Ja dh g0;have d1:=Ja dh g1;have d2:=Ja dh g2;have d3:=Ja dh g3;have d4:=Ja dh g4;have d5:=Ja dh g5;have d6:=Ja dh g6;have d7:=Ja dh g7;have d8:=Ja dh g8;have d9:=Ja dh g9;have dw:okS q.name:=Ml;have ik:=Jiv q.name L;have ga:=Jr2 M w Ua q.e rL.2.2.2 cM.formed B2 k2 (J9 L q.name) se ⟨by unfold I64;have:=aN.2;omega,by have:=aN.1;unfold maxLen;omega⟩;have cU:=fun W (hb:Below w.heap.size w W)=>Jnz q.first B1 k1 W (sf.later hb) cM.first;have iU:Jad L (p.eqs.take (k+1))=q.e.arrs (Jad L (p.eqs.take k)) (J9 L q.name):=by rw [aP];unfold Jad;rw [List.foldl_append];rfl
     have kY:(J0 (p.eqs.take (k+1))).map (Xm L)=(J0 (p.eqs.take k)).map (Xm L) ++ (if (q.delay != 0)=true then [Xm L q] else []):=by
      rw [aP];unfold J0;rw [List.filter_append,List.map_append]
      congr 1
      rw [List.filter_cons]
      split <;> simp_all
     have hcql:((J0 (p.eqs.take k)).map (Xm L)).length<=k:=by
      rw [List.length_map];have:=Ja4 (p.eqs.take k);rw [List.length_take] at this;exact Ua
     have mp:Xm L q=⟨q.name,(J9 L q.name).1,(J9 L q.name).2,Jai q.first⟩:=rfl;rw [show L.foldl (fun c v=>if q.name.data=v.name.data then(v.ck,v.cn) else c) (0,⟨#[]⟩)=J9 L q.name from rfl] at ik;generalize J9 L q.name=CK at aN ga ik iU mp;obtain⟨ck,cs⟩:=CK;dsimp only at aN ga iU mp;have gD:=Nf iU;have gE:=Nf kY;have rM:=Nf mp;unfold exV at ga cU;unfold kvC at ga;dsimp only at ga;have iS:=Nf ga;have uT:=Nf cU;clear hx aj aP iU kY mp g0 g1 g2 g3 g4 g5 g6 g7 g8 g9 ga cU sf se aN
     go_wp2_with fail
     refine Jo fun V1 dq=>?_;have ac:=Nd wr V1 G0;have af:wr.heap.size+1=V1.heap.size:=Td;have z0:=Nb V1 wr.heap.size 0 (.string q.name) Uy;have z1:=Na V1 wr.heap.size 1 q.delay Uy;have z2:=Na V1 wr.heap.size 2 q.first.kind Uy;have z3:=Nb V1 wr.heap.size 3 (.int .i32 q.first.n) Uy;have z4:=Nb V1 wr.heap.size 4 (.string q.first.name) Uy;have z5:=Nb V1 wr.heap.size 5 (.slice B1 q.first.sub.length k1) Uy;have z6:=Na V1 wr.heap.size 6 q.e.kind Uy;have z7:=Nb V1 wr.heap.size 7 (.int .i32 q.e.n) Uy;have z8:=Nb V1 wr.heap.size 8 (.string q.e.name) Uy;have z9:=Nb V1 wr.heap.size 9 (.slice B2 q.e.sub.length k2) Uy;have zm:=Ja ac ym;have zx:=Ja ac y0;have zX5:=Ja ac y5;have zX7:=Ja ac y7;have zX6:=Ja ac rJ.out;have zf6:=((Jf ac) X 6 Ua).trans hf6.out;have hkQ:J6 (fun j=>j=X\/j=M) V0 V1:=gC.out.trans' (J6.bel ac);have zM:Qd Tryz.prog 9 clkR okS klS okC klC (0,⟨#[]⟩) V1 Bt L.length (Jcq L) L.length:=uS.out.keep1 (hkQ.block Bt Ua Ua);have zN:Q3 Tryz.prog 81 3 .i64 okC klC V1 M nM f c:=rK.out.bel ac;have qa:=Jy ao.out ac;have iR:=Nd w V1 (Jd dh ac)
     have hS:∀w',J6 (fun j=>M<=j/\j≠bm/\j≠wr.heap.size) V1 w'->w'.cell? ⟨bm,0,none⟩=some (.map (some M))/\w'.cell? ⟨bx,0,none⟩=some (.pointer (some ⟨X,0,none⟩))/\w'.cell? ⟨X,5,none⟩=some (.map (some Bt))/\w'.cell? ⟨wr.heap.size,0,none⟩=some (.string q.name)/\w'.cell? ⟨wr.heap.size,1,none⟩=some (.int .i64 q.delay)/\w'.cell? ⟨wr.heap.size,2,none⟩=some (.int .i64 q.first.kind)/\w'.cell? ⟨wr.heap.size,3,none⟩=some (.int .i32 q.first.n)/\w'.cell? ⟨wr.heap.size,4,none⟩=some (.string q.first.name)/\w'.cell? ⟨wr.heap.size,5,none⟩=some (.slice B1 q.first.sub.length k1)/\w'.cell? ⟨wr.heap.size,6,none⟩=some (.int .i64 q.e.kind)/\w'.cell? ⟨wr.heap.size,7,none⟩=some (.int .i32 q.e.n)/\w'.cell? ⟨wr.heap.size,8,none⟩=some (.string q.e.name)/\w'.cell? ⟨wr.heap.size,9,none⟩=some (.slice B2 q.e.sub.length k2)/\(Instr.lookup 205 (.map (some Bt)) (.string q.name) false).run Tryz.prog w' = .ok (.agg #[.int .i64 ck,.string cs]) w':=fun w' hk=>
      ⟨hk.cell Ua zm,hk.cell Ua zx,hk.cell Ua zX5,hk.cell Ua z0,hk.cell Ua z1,hk.cell Ua z2,hk.cell Ua z3,hk.cell Ua z4,hk.cell Ua z5,hk.cell Ua z6,hk.cell Ua z7,hk.cell Ua z8,hk.cell Ua z9,
       Ji1 (Jc2 Tryz.underlying9) Jgn Tryz.underlying205 (Jdv w') ⟨Vy,Ug⟩ (x:= .string q.name) rfl (zM.keep1 (hk.block Bt Ua Ua)) dw ik⟩
     have HS:=Nf hS;have zO:=Nf zN;clear dq hS zM zN d0 d1 d2 d3 d4 d5 d6 d7 d8 d9 y0 ym y5 y7 rK
     go_region_held3 (fun w'=>w'.cell? ⟨bm,0,none⟩=some (.map (some M))/\w'.cell? ⟨bx,0,none⟩=some (.pointer (some ⟨X,0,none⟩))/\w'.cell? ⟨X,5,none⟩=some (.map (some Bt))/\w'.cell? ⟨wr.heap.size,0,none⟩=some (.string q.name)/\w'.cell? ⟨wr.heap.size,1,none⟩=some (.int .i64 q.delay)/\w'.cell? ⟨wr.heap.size,2,none⟩=some (.int .i64 q.first.kind)/\w'.cell? ⟨wr.heap.size,3,none⟩=some (.int .i32 q.first.n)/\w'.cell? ⟨wr.heap.size,4,none⟩=some (.string q.first.name)/\w'.cell? ⟨wr.heap.size,5,none⟩=some (.slice B1 q.first.sub.length k1)/\w'.cell? ⟨wr.heap.size,6,none⟩=some (.int .i64 q.e.kind)/\w'.cell? ⟨wr.heap.size,7,none⟩=some (.int .i32 q.e.n)/\w'.cell? ⟨wr.heap.size,8,none⟩=some (.string q.e.name)/\w'.cell? ⟨wr.heap.size,9,none⟩=some (.slice B2 q.e.sub.length k2)/\(Instr.lookup 205 (.map (some Bt)) (.string q.name) false).run Tryz.prog w' = .ok (.agg #[.int .i64 ck,.string cs]) w')
      (first|exact HS.out _ (J6.bel (Jh (Nt)))|exact HS.out _ uU)
      (first|(go_at_call 129;refine(iS.out V1.drew nM f c (Jad L (p.eqs.take k)) (Jh iR) zO.out.drew fL.out Sp).mono ?_;rintro r w2 ⟨rfl,⟨n2',f2',c2',cI,eu,sV⟩,aG⟩;have uU:J6 (fun j=>M<=j/\j≠bm/\j≠wr.heap.size) V1 w2:=(J6.bel (Jh (Nt))).trans' (J6.grown aG (fun j hj=>by injection hj with hj;omega))))
     have qX:J6 (fun j=>j=M) V1 w2:=(J6.bel (Jh (Nt))).trans' (J6.grown aG (fun j hj=>by injection hj with hj;exact hj.symm));have qb:=qX.size;obtain⟨em,ex,eX5,e0,e1,e2,e3,e4,e5,e6,e7,e8,e9,elk⟩:=HS.out w2 uU;have eX6:=qX.cell Ua zX6;have ef6:=Nc w2 X 6 ((World.frozen?_of_block (a:=⟨X,6,none⟩) (qX.block X Ua Ua)).trans zf6);have aE:=qX.own (fun b hb he=>by have:=(qa.lt b hb).1;omega) qa;have qc:=Nf aE;have kj:=Nf cI;have rI:=Nf sV;have HKM:=Nf qX;clear cI sV aG qX uU qa aE zm zx zX5 zX6 zX7 z0 z1 z2 z3 z4 z5 z6 z7 z8 z9 zf6 zO;have hkW:J6 (fun j=>j=X\/j=M) V0 w2:=hkQ.trans HKM.out fun j _ hj=> .inr hj;have hXW:∀o,o≠6->w2.cell? ⟨X,o,none⟩=V0.cell? ⟨X,o,none⟩:=fun o ho=>(World.cell?_of_block (HKM.out.block X Ua Ua)).trans ((ac.cell (p:=⟨X,o,none⟩) (by show X<wr.heap.size;omega)).trans (wX.out o ho));have HKW:=Nf hkW;have HXW:=Nf hXW;have hN2:n2'<=120 * (k+1):=Sp;clear hkQ hXW hkW wX HKM iS gC;generalize (J0 (p.eqs.take k)).map (Xm L)=csl at *
     cases tq:(q.delay != 0)
     ·go_wp2_with fail
      go_roundw
      case rel=>exact⟨k+1,v,n2',f2',c2',Ua,Uw,HKW,HXW,Nf eX6,Nf ef6,Nf (by rw [gE.out,tq];simpa using qc.out),kj,hN2,Nf (by rw [gD.out];exact rI.out)⟩
      case measure=>simp [intOf];omega
     ·have zP:Qd Tryz.prog 9 clkR okS klS okC klC (0,⟨#[]⟩) w2 Bt L.length (Jcq L) L.length:=uS.out.keep1 (HKW.out.block Bt Ua Ua);obtain⟨Ac,cc,rfl,oS,nx⟩:=Jv qc.out
      have dk:∀w',J6 (fun j=>V0.heap.size<=j/\j≠wr.heap.size) w2 w'->w'.cell? ⟨bm,0,none⟩=some (.map (some M))/\w'.cell? ⟨bx,0,none⟩=some (.pointer (some ⟨X,0,none⟩))/\w'.cell? ⟨X,5,none⟩=some (.map (some Bt))/\w'.cell? ⟨wr.heap.size,0,none⟩=some (.string q.name)/\w'.cell? ⟨wr.heap.size,1,none⟩=some (.int .i64 q.delay)/\w'.cell? ⟨wr.heap.size,2,none⟩=some (.int .i64 q.first.kind)/\w'.cell? ⟨wr.heap.size,3,none⟩=some (.int .i32 q.first.n)/\w'.cell? ⟨wr.heap.size,4,none⟩=some (.string q.first.name)/\w'.cell? ⟨wr.heap.size,5,none⟩=some (.slice B1 q.first.sub.length k1)/\w'.cell? ⟨wr.heap.size,6,none⟩=some (.int .i64 q.e.kind)/\w'.cell? ⟨wr.heap.size,7,none⟩=some (.int .i32 q.e.n)/\w'.cell? ⟨wr.heap.size,8,none⟩=some (.string q.e.name)/\w'.cell? ⟨wr.heap.size,9,none⟩=some (.slice B2 q.e.sub.length k2)/\(Instr.lookup 205 (.map (some Bt)) (.string q.name) false).run Tryz.prog w' = .ok (.agg #[.int .i64 ck,.string cs]) w'/\w'.cell? ⟨X,6,none⟩=some (.slice Ac csl.length cc):=fun w' hk=>
       ⟨hk.cell Ua em,hk.cell Ua ex,hk.cell Ua eX5,hk.cell Ua e0,hk.cell Ua e1,hk.cell Ua e2,hk.cell Ua e3,hk.cell Ua e4,hk.cell Ua e5,hk.cell Ua e6,hk.cell Ua e7,hk.cell Ua e8,hk.cell Ua e9,
        Ji1 (Jc2 Tryz.underlying9) Jgn Tryz.underlying205 (Jdv w') ⟨Vy,Ug⟩ (x:= .string q.name) rfl (zP.keep1 (hk.block Bt Ua Ua)) dw ik,hk.cell Ua eX6⟩
      have iz:=Nf dk;have ar:=dk w2.drew (J6.bel (Jh (Nt)));have et:=Jua;have rN:=Nd w w2 (J6.below cX HKW.out (fun j hj he=>Ua));clear dk zP em ex eX5 e0 e1 e2 e3 e4 e5 e6 e7 e8 e9 elk HS
      go_wp2_with fail
      refine Kd (fun w'=>w'.cell? ⟨bm,0,none⟩=some (.map (some M))/\w'.cell? ⟨bx,0,none⟩=some (.pointer (some ⟨X,0,none⟩))/\w'.cell? ⟨X,5,none⟩=some (.map (some Bt))/\w'.cell? ⟨wr.heap.size,0,none⟩=some (.string q.name)/\w'.cell? ⟨wr.heap.size,1,none⟩=some (.int .i64 q.delay)/\w'.cell? ⟨wr.heap.size,2,none⟩=some (.int .i64 q.first.kind)/\w'.cell? ⟨wr.heap.size,3,none⟩=some (.int .i32 q.first.n)/\w'.cell? ⟨wr.heap.size,4,none⟩=some (.string q.first.name)/\w'.cell? ⟨wr.heap.size,5,none⟩=some (.slice B1 q.first.sub.length k1)/\w'.cell? ⟨wr.heap.size,6,none⟩=some (.int .i64 q.e.kind)/\w'.cell? ⟨wr.heap.size,7,none⟩=some (.int .i32 q.e.n)/\w'.cell? ⟨wr.heap.size,8,none⟩=some (.string q.e.name)/\w'.cell? ⟨wr.heap.size,9,none⟩=some (.slice B2 q.e.sub.length k2)/\(Instr.lookup 205 (.map (some Bt)) (.string q.name) false).run Tryz.prog w' = .ok (.agg #[.int .i64 ck,.string cs]) w'/\w'.cell? ⟨X,6,none⟩=some (.slice Ac csl.length cc)) 20 3 Ue Gp ?_;simp only [List.size_toArray,Nl,Nm,Nat.zero_add,Nat.reduceAdd];refine Ji 0 ar ?_;refine Ji 1 ar ?_;refine Ji 2 ar ?_;refine Ji 3 ar ?_;refine Ji 4 ar ?_;refine Ji 5 ar ?_;refine Ji 6 ar ?_;refine Ji 7 ar ?_;refine Ji 8 ar ?_;refine Ji 9 ar ?_;refine Ji 10 ar ?_;refine Ji 11 ar ?_;refine Ji 12 ar ?_;refine Ji 13 ar ?_;refine Ji 14 ar ?_;refine Ji 15 ar ?_;refine Kb 16 ?_;refine Jj fun K hK=>?_;go_simp;refine(uT.out w2.drew (Jh rN)).mono ?_;rintro r w3 ⟨rfl,aM⟩;dsimp only;have dU:J6 (fun j=>V0.heap.size<=j/\j≠wr.heap.size) w2 w3:=J6.bel (Jd (Jh (Nt)) aM);have oC:=iz.out w3 dU;refine hK _ _ ⟨oC,?_⟩;clear hK K;refine Ji 17 oC ?_;refine Kb 18 ?_;refine Jj fun K hK=>?_;go_simp;have zQ:=iz.out (w3.alloc (.cells #[.string q.name,.int .i64 ck,.string cs,.int .i32 (Jai q.first)] 212)) (dU.trans' (J6.bel (Jc (Nt) _)));refine hK _ _ ⟨zQ,?_⟩;clear hK K;have sW:w3.ownsRow V0.heap.size 212 4 (.slice Ac csl.length cc) csl.length (X7 csl):=Jy (Kp qc.out) aM;have lw:∀b',(Value.slice Ac csl.length cc).ownBlock=some b'->V0.heap.size<=b'/\b'<w2.heap.size:=fun b' gr=>⟨(qc.out.lt b' gr).1,(qc.out.lt b' gr).2⟩;have zR:∀b',(Value.slice Ac csl.length cc).ownBlock=some b'->b'<wr.heap.size:=fun b' gr=>(ao.out.lt b' gr).2;have fe:=dU.size;refine Kb 19 ?_;refine Ji5 (.tmp 77) (.tmp 91) 178 rfl V0.heap.size 212 _ 4 48 Tryz.underlying178 et rfl Ua (.slice Ac csl.length cc) csl.length (X7 csl) w3.heap.size 1 1 [.string q.name,.int .i64 ck,.string cs,.int .i32 (Jai q.first)] rfl (Js sW) rfl rfl (fun j u hj=>by refine(Qo (w:=w3) (c:=#[.string q.name,.int .i64 ck,.string cs,.int .i32 (Jai q.first)]) (t:=212) rfl).trans ?_;simpa using hj) Vg Ua Ua Ui ?_;intro v3 w4 cj cg hv4;obtain⟨A3',c3',rfl,hc31,hc32⟩:=Jv cj;have iA:J6 (fun j=>V0.heap.size<=j/\j≠wr.heap.size) w2 w4:=(dU.trans' (J6.bel (Jc (Nt) _))).trans' (J6.grown cg fun j hj=>by have h1:=lw j hj;have h2:=zR j hj;omega);have zS:J6 (fun j=>V0.heap.size<=j) w2 w4:=iA.less fun j _ hj=>hj.1;have oy:=iz.out w4 iA;have k6:=Nb w4 X 6 (.slice Ac csl.length cc) (iA.cell Ua eX6);have kf:=Nc w4 X 6 ((World.frozen?_of_block (a:=⟨X,6,none⟩) (iA.block X Ua Ua)).trans ef6);refine⟨oy,Kh Ue ?_⟩
      try simp only [Act.put,sa1,sa2,sa3]
      refine Qx 20 ?_;refine Jj fun K hK=>?_;go_simp;refine hK _ _ ?_;clear hK K
      try simp only [Act.put,sa1,sa2,sa3]
      refine Qx 21 ?_;refine Jj fun K hK=>?_;go_simp;refine hK _ _ ?_;clear hK K
      try simp only [Act.put,sa1,sa2,sa3]
      refine Qx 22 ?_;refine Jj fun K hK=>?_;go_simp;refine hK _ _ ?_;clear hK K
      try simp only [Act.put,sa1,sa2,sa3]
      refine Ki Ue ?_;have nT:J6 (fun j=>j=X\/V0.heap.size<=j) w2 (w4.setCell ⟨X,6,none⟩ (.slice A3' (csl.length+1) c3')):=(zS.less fun j _ hj=> .inr hj).setCell (.inl rfl) _ _;have HK5:=Nf (HKW.out.trans nT (fun j hj h=>h.elim (fun h=> .inl h) (fun h=>absurd h Ua)));have HXO5:=Nf (fun(o:Nat) (ho:o≠6)=>(World.cell?_setCell_other w4 ⟨X,6,none⟩ ⟨X,o,none⟩ (.slice A3' (csl.length+1) c3') Vz).trans ((World.cell?_of_block (iA.block X Ua Ua)).trans (HXW.out o ho)));have HX65:=Nf (Nx w4 ⟨X,6,none⟩ (.slice A3' (csl.length+1) c3') k6);have HF65:=Nf ((World.frozen?_setCell (w:=w4) (a:=⟨X,6,none⟩) (v:= .slice A3' (csl.length+1) c3') (b:=⟨X,6,none⟩)).trans kf);have sX:=Kn cj (z:=X) (fun b' gr he=>by have:=(cj.lt b' gr).1;omega) 6 (.slice A3' (csl.length+1) c3');have HOWF:=Nf sX;have HMF5:=Nf (kj.out.keep1 (nT.block M Ua Ua));clear ar oC zQ oy dU iA zS nT cj cg hv4 k6 kf sW lw zR sX
      go_wp2_with fail
      go_roundw
      case rel=>exact⟨k+1,_,n2',f2',c2',Ua,Uw,HK5,HXO5,HX65,HF65,Nf (by rw [gE.out,tq,if_pos rfl,Jdy,Nk,rM.out];exact HOWF.out),HMF5,hN2,Nf (by rw [gD.out];exact rI.out)⟩
      case measure=>simp [intOf];omega
    ·obtain rfl:k=p.eqs.length:=Ua;obtain⟨Wb,rfl⟩:∃Wb,Wb=wr:=⟨wr,rfl⟩;have dr:=ao.out;have dk:=fL.out;rw [List.take_length] at dr dk;have e7:=(wX.out 7 Ug).trans v7;have zT:Q3 Tryz.prog 81 3 .i64 okC klC Wb F 0 (fun _=>none) 0:=(HMF1.out.keep1 (zK.out.block F Ua Ua)).keep1 (gC.out.block F Ua Ua);have jx:Jd1 Wb M F X bm bx V0.heap.size (Jad L p.eqs) ((J0 p.eqs).map (Xm L)) 0 v:=⟨ym,y0,rJ.out,e7,⟨nM,f,c,rK.out,dk⟩,⟨_,_,zT⟩,dr,hf6.out⟩;have hkB:J6 (fun j=>j=Bt\/j=X\/M<=j) wb Wb:=((sT.out.less fun j _ hj=> .inl hj).trans' (J6.bel zL)).trans (gC.out) fun j hj h=>Ua
     have rl:((J0 p.eqs).map (Xm L)).length<=24:=by
      rw [List.length_map];have:=Ja4 p.eqs;have:=cC.out.small.2.2.2;exact Ua
     have ah:Jq p=(J0 p.eqs).map (Xm L) ++ Kaq (Jad L p.eqs) (X3 L):=by unfold Jq;rw [qR]
     have rk:=Nf ah;have hbwB:=Nd w Wb (J6.below cX gC.out (fun j hj he=>Ua));have u0:=(gC.out.cell Ua (zK.out.cell Ua s0));have u1:=(gC.out.cell Ua (zK.out.cell Ua s1));have u2:=(gC.out.cell Ua (zK.out.cell Ua s2));have hfB:∀o,Wb.frozen? ⟨w.heap.size+1,o,none⟩=W1.frozen? ⟨w.heap.size+1,o,none⟩:=fun o=>(World.frozen?_of_block (gC.out.block (w.heap.size+1) Ua Ua)).trans (World.frozen?_of_block (zK.out.block (w.heap.size+1) Ua Ua));have w0':=(hfB 0).trans t0;have w1':=(hfB 1).trans t1;have w2':=(hfB 2).trans t2;have gZ:∀(fn:Fn) (first cap:Array Value) (w:World),(Instr.makeFunc fn first cap).run Tryz.prog w = .ok (.func fn first cap) w:=fun _ _ _ _=>rfl;generalize (J0 p.eqs).map (Xm L)=cs0 at *;generalize Jad L p.eqs=Lm at *;have cJ:=Nf jx;have HKB:=Nf hkB;clear dr dk jx hkB zT ah y0 ym y5 y7 rJ hf6 fL rK ao wX gC dh s0 s1 s2 t0 t1 t2 v0 v5 v6 v7 fv6 m0 uS hfB e7
     go_wp2_with (first|(go_at_call 131;go_loud (refine(Jhd M F X bm bx V0.heap.size Ua Ua Ua Ua Ua Ua Ua Ua Ua Ua Ua Ua Lm 0 ⟨#[]⟩ cs0 0 v Wb Ua cJ.out ⟨Vy,Sg⟩ Ua Ua).mono ?_;rintro r Wc ⟨rfl,⟨vc,uV,mW⟩,pM⟩)))
     have hcz:(if inC Lm (0,⟨#[]⟩)=true then cs0 ++ [Jb6 (0,⟨#[]⟩)] else cs0)=cs0 ++ Kaq Lm (X3 (L.take 0)):=by
      rw [show X3 (L.take 0) = [] ++ [(0,⟨#[]⟩)] from rfl,Jc1]
      split
      ·exact Gp
      ·simp [Kaq]
     rw [hcz] at uV;have hvB:∀j,some j=v.ownBlock->V0.heap.size<=j:=fun j hj=>(cJ.out.own.lt j hj.symm).1
     have uW:J6 (fun j=>j=F\/j=X\/V0.heap.size<=j) Wb Wc:=pM.less fun j _ hj=>by
      rcases hj with h|h|h
      ·exact .inl h
      ·exact .inr (.inl h)
      ·exact .inr (.inr (hvB j h))
     have HKC:=Nf uW;have zU:=Nf uV;have hzC:=uW.size;clear hcz hvB pM uW uV mW cJ
     go_loopw [102] (fun i wr=>∃(k n:Nat) (vk:Value),k<=L.length/\i = .int .i64 k/\n<=1+2 * k/\Hid (Jd1 wr M F X bm bx V0.heap.size Lm (cs0 ++ Kaq Lm (X3 (L.take k))) n vk)/\Hid (J6 (fun j=>j=F\/j=X\/V0.heap.size<=j) Wb wr)) (fun i _=>L.length-(intOf i).toNat)
     case atStart=>exact⟨0,1,vc,Np,rfl,Ua,zU,HKC⟩
     case round=>
      clear zU HKC;obtain⟨k,n,vk,dU,rfl,sR,cV,mI⟩:=hrel;have uX:=mI.out.size;have fR:=Jj0 Lm (X3 (L.take k));rw [Joj,List.length_take] at fR;have hcl3:(cs0 ++ Kaq Lm (X3 (L.take k))).length<=100:=D9
      by_cases jp:k<L.length
      ·have hx:L[k]?=some L[k]:=Ng jp;have aj:L[k]∈L:=Nj jp;generalize L[k]=x at hx aj;have zV:=Jnf hx;have jg:Ju wr L Av cv:=Jp6 (S:=fun j=>j=Bt\/j=X\/j=F\/M<=j) yC.out ((HKB.out.less fun j _ hj=>Ua).trans mI.out fun j _ hj=>Ua) (fun j h1 h2 h3=>Ua);obtain⟨b,off,rfl,bG,⟨d0,d1,d2,d3⟩⟩:=jg.get hx;have dT:=HVF.out x aj;have hso1:okC (1,x.name):=⟨Vy,by have:=dT.name;unfold maxLen;dsimp only;omega⟩;have hso2:okC (2,x.name):=⟨Vy,by have:=dT.name;unfold maxLen;dsimp only;omega⟩;have ae:=cV.out.own;have HAL:=Nf zV;clear hx aj zV jg dT
       have hE:∀A B:List Ce,(if inC Lm (2,x.name)=true then(if inC Lm (1,x.name)=true then(cs0 ++ Kaq Lm (X3 (L.take k))) ++ [Jb6 (1,x.name)] else(cs0 ++ Kaq Lm (X3 (L.take k)))) ++ [Jb6 (2,x.name)] else(if inC Lm (1,x.name)=true then(cs0 ++ Kaq Lm (X3 (L.take k))) ++ [Jb6 (1,x.name)] else(cs0 ++ Kaq Lm (X3 (L.take k)))))=cs0 ++ Kaq Lm (X3 (L.take (k+1))):=fun _ _=>by
        rw [HAL.out,Jc1,Jc1]
        cases inC Lm (1,x.name) <;> cases inC Lm (2,x.name) <;> simp
       have HE:=Nf (hE [] []);clear hE;generalize cs0 ++ Kaq Lm (X3 (L.take k))=ck0 at *
       go_wp2_with fail
       refine Jle fun Wx iV=>?_;have fk:=Nd wr Wx (by rw [iV];exact Jb)
       have io:Wx.heap.size=wr.heap.size+1:=by rw [iV];simp
       have n0:=Nb Wx wr.heap.size 0 (.string x.name) (by rw [iV];go_simp)
       have uY:∀j,some j=vk.ownBlock->V0.heap.size<=j/\j<wr.heap.size:=fun j hj=>ae.lt j hj.symm;clear iV d0 d1 d2 d3;refine(Jhd M F X bm bx V0.heap.size Ua Ua Ua Ua Ua Ua Ua Ua Ua Ua Ua Ua Lm 1 x.name ck0 n vk Wx Ua (cV.out.later fk) hso1 Ua Ua).mono ?_;rintro r Wd ⟨rfl,⟨vd,uZ,zW⟩,hkd⟩;have n1':=Nb Wd wr.heap.size 0 (.string x.name) (hkd.cell (fun h=>by rcases h with h|h|h;exact absurd h Ua;exact absurd h Ua;have:=uY _ h;omega) n0);have ir:=hkd.size;have hvd2:∀j,some j=vd.ownBlock->V0.heap.size<=j:=fun j hj=>(uZ.own.lt j hj.symm).1
       have zX:J6 (fun j=>j=F\/j=X\/V0.heap.size<=j) Wb Wd:=(mI.out.trans' (J6.bel fk)).trans hkd fun j _ hj=>by
        rcases hj with h|h|h
        ·exact .inl h
        ·exact .inr (.inl h)
        ·exact .inr (.inr (uY j h).1)
       have jX:=Nf uZ;have HKW1:=Nf zX;clear uZ zX hkd zW ae
       go_wp2_with fail
       refine(Jhd M F X bm bx V0.heap.size Ua Ua Ua Ua Ua Ua Ua Ua Ua Ua Ua Ua Lm 2 x.name _ (n+1) vd Wd Ua jX.out hso2 Ua (by split <;> (try rw [Nk]) <;> (try simp only [Nl,Nm]) <;> omega)).mono ?_;rintro r We ⟨rfl,⟨ve,vg,hve⟩,bk⟩
       have HKW2:=Nf (HKW1.out.trans bk fun j _ hj=>by
        rcases hj with h|h|h
        ·exact .inl h
        ·exact .inr (.inl h)
        ·exact .inr (.inr (hvd2 j h)))
       rw [HE.out] at vg;have nE:=Nf vg;clear vg bk hve
       go_wp2_with fail
       go_roundw
       case rel=>exact⟨k+1,n+1+1,ve,Ua,Uw,Ua,nE,HKW2⟩
       case measure=>simp [intOf];omega
      ·obtain rfl:k=L.length:=Ua;rw [List.take_length,<-rk.out] at cV hcl3;have rJ:=cV.out.x6;have oz:=cV.out.x;have fN:=cV.out.own;obtain⟨Ae,ce,rfl,zY,rO⟩:=Jv fN;unfold maxLen at rO;have jh:=Nd w wr (J6.below hbwB mI.out (fun j hj he=>Ua));have u0':=mI.out.cell Ua u0;have u1':=mI.out.cell Ua u1;have u2':=mI.out.cell Ua u2;have hfE:∀o,wr.frozen? ⟨w.heap.size+1,o,none⟩=Wb.frozen? ⟨w.heap.size+1,o,none⟩:=fun o=>World.frozen?_of_block (mI.out.block (w.heap.size+1) Ua Ua);have f0':=(hfE 0).trans w0';have f1':=(hfE 1).trans w1';have f2':=(hfE 2).trans w2';have HOE:=Nf (K8 fN (B':=w.heap.size) Ua);have mq:∀b,(Value.slice Ae (Jq p).length ce).ownBlock=some b->b≠w.heap.size+1:=fun b hb he=>by have:=(fN.lt b hb).1;omega
       have hSX:∀(U:World) (o:Nat) (u:Value),(U.setCell ⟨w.heap.size+1,o,none⟩ u).cell? ⟨X,6,none⟩=U.cell? ⟨X,6,none⟩:=fun U o u=>World.cell?_setCell_other _ _ _ _ Lh;have HSX:=Nf hSX;clear cV mI fN u0 u1 u2 w0' w1' w2' hfE hSX
       by_cases dP:16<(Jq p).length
       ·have pU:(16:Int)<((Jq p).length:Int):=Ua
        go_wp2_with fail
        refine Nv (v:= .tuple #[.pointer none,.agg #[.int .i64 4,.int .i64 0,.int .i64 3]]) Gk rfl ?_;unfold Jkv;rw [if_pos dP];exact⟨rfl,Gy⟩
       ·have pU:¬(16:Int)<((Jq p).length:Int):=Ua
        go_wp2_with fail
        refine Nv (v:= .tuple #[.pointer (some ⟨X,0,none⟩),.agg #[.int .i64 0,.int .i64 0,.int .i64 0]]) Gk rfl ?_;unfold Jkv;rw [if_neg dP];exact⟨⟨X,.slice Ae (Jq p).length ce,rfl,(by rw [HSX.out,HSX.out,HSX.out];exact rJ),Kn (Kn (Kn HOE.out mq 0 _) mq 1 _) mq 2 _⟩,Gy⟩
end Go.Proofs.YtdgjplldlfeolaaGreatDoor
