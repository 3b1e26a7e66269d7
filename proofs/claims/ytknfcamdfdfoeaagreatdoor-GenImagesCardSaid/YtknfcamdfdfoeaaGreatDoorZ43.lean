/- Lemmas. -/
import Derived.Test.YtknfcamdfdfoeaaGreatDoorMac
import Derived.Test.YtknfcamdfdfoeaaGreatDoorZ02
import Derived.Test.YtknfcamdfdfoeaaGreatDoorTie
import Derived.Test.YtknfcamdfdfoeaaGreatDoorCards
import Derived.Test.YtknfcamdfdfoeaaGreatDoorZ04
import Derived.Test.YtknfcamdfdfoeaaGreatDoorZ07
import Derived.ProofKit
import Derived.LaidMore
import Derived.OpenShut
import Derived.Stop.Joined
import Derived.Test.YtknfcamdfdfoeaaGreatDoorZ40
import Derived.Test.YtknfcamdfdfoeaaGreatDoorZ41
import Derived.Test.YtknfcamdfdfoeaaGreatDoorZ42
import Derived.Test.YtknfcamdfdfoeaaGreatDoorZ39
import Derived.Test.YtknfcamdfdfoeaaGreatDoorZ23
import Derived.Deep.CutRange
set_option linter.unusedVariables false
set_option linter.unusedSimpArgs false
set_option maxRecDepth 100000
set_option maxHeartbeats 64000000
namespace Go.Proofs.YtknfcamdfdfoeaaGreatDoor
open Go.RowKit Go.Sort
def Jas (p:Pr) (r:Ending):Prop:=∃b,r = .returned (.bool b)/\(b=true->p.ins.length<=60/\p.outs.length<=60/\p.locals.length<=60/\p.eqs.length<=60/\∀q∈p.eqs,q.first.size<=1000000/\q.e.size<=1000000)
theorem Jas.no (p:Pr):Jas p (.returned (.bool false)):=⟨false,rfl,Ul⟩
theorem Jas.yes {p:Pr} (h1:p.ins.length<=60) (h2:p.outs.length<=60) (h3:p.locals.length<=60) (h4:p.eqs.length<=60) (h5:∀q∈p.eqs,q.first.count 300<300/\q.e.count 300<300):Jas p (.returned (.bool true)):=⟨true,rfl,fun _=>⟨h1,h2,h3,h4,fun q hq=>by
 obtain⟨c1,c2⟩:=h5 q hq;have:=Ex.count_size q.first 300 c1;have:=Ex.count_size q.e 300 c2;omega⟩⟩
theorem Js0 (p:Pr) (a:PrA) (w:World) (hp:Kr w p a) :
  Calls Tryz.prog 5 #[prV p a] w fun r w'=>Jas p r/\Below w.heap.size w w':=by
 have bT:=hp.eqs;have ji:=hp.ins.len;have je:=hp.outs.len;have hq3:=hp.locals.len;have hq4:=hp.eqs.len;obtain⟨A1,c1,A2,c2,A3,c3,A4,c4⟩:=a;unfold maxLen at ji je hq3 hq4;unfold prV;dsimp only at *;obtain⟨hq11,hq12⟩:=ji;obtain⟨hq21,hq22⟩:=je;obtain⟨hq31,hq32⟩:=hq3;obtain⟨hq41,hq42⟩:=hq4
 by_cases g1:60<p.ins.length
 ·exact Uc3
 by_cases g2:60<p.outs.length
 ·exact Uc3
 by_cases g3:60<p.locals.length
 ·exact Uc3
 by_cases g4:60<p.eqs.length
 ·exact Uc3
 by_cases g5:2000<p.name.size
 ·exact Uc3
 clear hp
 go_enter Tryz.func5,Tryz.ntmps5
 go_wp2_with fail
 refine Jo fun W0 ag=>?_;have ax:=Nd w W0 Uo;have bD:w.heap.size<W0.heap.size:=La;have p4:=Nb W0 w.heap.size 4 (.slice A4 p.eqs.length c4) Uc;clear ag;replace bT:=bT.later ax
 go_loopw [3,4] (fun m i wr=>∃(k:Nat) (m':Int),k<=p.eqs.length/\i = .int .i64 k/\m = .int .i64 m'/\0<=m'/\m'<=600 * (k:Int)/\Hid (∀y∈p.eqs.take k,y.first.count 300<300/\y.e.count 300<300)/\Below W0.heap.size W0 wr) (fun _ i _=>p.eqs.length-(intOf i).toNat)
 case atStart=>exact⟨0,0,Np,rfl,rfl,Ua,Ua,Nf (fun y hy=>by simp at hy),Nt⟩
 case round=>
  obtain⟨k,m',hk,rfl,rfl,h0,h1,HS,ab⟩:=hrel;have hc:=Jg ab;have bu:=ab.size;have fF:=lt0 w wr
  by_cases am:k<p.eqs.length
  ·obtain⟨q,hx,-,hd⟩:=Kl am;obtain⟨b,off,B1,n1,B2,n2,rfl,aH,⟨g0,g1,g2,g3,g4,g5,g6,g7,g8,g9,s1,s2⟩⟩:=(bT.later ab).get hx;have ak:=Ex.count_bd q.first 300;have dm:=Ex.count_bd q.e 300;have ii:=fun W h=>Jf2 q.first B1 n1 300 W (s1.later h) Ua Ua;have gL:=fun W h=>Jf2 q.e B2 n2 300 W (s2.later h) Ua Ua;unfold exV at ii gL
   have HK:=Nf (show q.first.count 300<300->q.e.count 300<300->∀y∈p.eqs.take (k+1),y.first.count 300<300/\y.e.count 300<300 from fun g1 g2 y hy=>by
    rw [List.take_add_one,hx] at hy;simp only [Option.toList,List.mem_append,List.mem_singleton] at hy
    rcases hy with hy|rfl
    ·exact HS.out y hy
    ·exact⟨g1,g2⟩)
   clear hd hx;generalize q.first.count 300=x1 at *;generalize q.e.count 300=x2 at *
   by_cases t1:3000<m'+x2+x1
   ·exact Bu
   by_cases t2:x2>=300
   ·exact Bu
   by_cases t3:x1>=300
   ·exact Bu
   go_wp2_with fail
   refine Jx Ug Ug (fun bj=>?_)
   repeat (quiet_step ((first|(go_at_call_of 16 B1;exact Calls.regrown_of (ii _ Jb))|(go_at_call_of 16 B2;exact Calls.regrown_of (gL _ Jb)))))
   refine wpQuiet_nil ?_;intro wq au;replace au:=qbo au;obtain⟨au,dA,bh⟩:=au;clear bj
   (try simp at bh)
   have wB:=lt0 w wq;have uN:b<wq.heap.size:=Ua
   go_wp2_with (first|(go_at_call_of 16 B1;refine(ii _ Jb).mono ?_;rintro r wa ⟨rfl,aA⟩;have aW:=Jg aA;have cN:=aA.size;have dG:=lt0 w wa)|(go_at_call_of 16 B2;refine(gL _ Jb).mono ?_;rintro r wb ⟨rfl,aH⟩;have el:=Jg aH;have dH:=aH.size;have cA:=lt0 w wb))
   go_roundw
   case rel=>exact⟨k+1,m'+x2+x1,Ua,Up,Up,Ua,Ua,Nf (HK.out Ua Ua),Jb⟩
   case measure=>simp [intOf];omega
  obtain rfl:k=p.eqs.length:=Ua
  go_wp2_with fail
  go_ret;exact⟨Jas.yes Ua Ua Ua Ua (by have:=HS.out;rwa [List.take_length] at this),Jb⟩
end Go.Proofs.YtknfcamdfdfoeaaGreatDoor
namespace Go.Proofs.YtknfcamdfdfoeaaGreatDoor
open Go.ChangeShapes Go.WideShapes Go.ChangeAt Go.WideMaps Go.WideElems Go.RowKit
def Jk4:List (String×DataW Unit):=Rows.genCodesRow.laid
theorem Jww (os:Os) (args:Array Value):laidMetH Tryz.prog Jk4 ((World.doorLaid Tryz.prog 400 os).forCall (fun _ _=>0) ⟨#[],args,[]⟩).memory:=
 laidMetH_of_parts3 (fuel:=8) (laidMet_of_run' 8 Ug Ug) Ug Ug
theorem Jyw {W:World} (h:laidMetH Tryz.prog Jk4 W):Ql W:=by
 rw [MakeChecks.laidMetH_plain _ _ _ Ug] at h;obtain⟨ps,⟨g0,t0,cs0,f0,p0,q0,hg0,fQ,dD,lA,_,_⟩,_,_⟩:=h;obtain rfl:=Option.some.inj ((show Tryz.prog.globalNamed _=some 0 by kernel_rfl).symm.trans hg0);obtain rfl:=Option.some.inj ((show(Tryz.prog.globals[0]?).map (·.type)=some 55 by kernel_rfl).symm.trans fQ);obtain⟨xs,n,rfl,hx,ai,lB,hg⟩:=DataW.trod_struct Tryz.underlying55 lA;rw [Jeq] at ai;obtain⟨cs0⟩:=cs0;simp only [Prod.mk.injEq] at hx;obtain⟨hx,_⟩:=hx
 match cs0,ai,xs,lB with
 | [c0,c1],_,[y0,y1],_=>
  have k0:DataW.trod _ Tryz.prog W 0 _ _ n 3 (([c0,c1].drop 0).take (Tryz.prog.cellsOf 3))=some y0:=hg 0 _ rfl;have k1:DataW.trod _ Tryz.prog W 0 _ _ n 9 (([c0,c1].drop 1).take (Tryz.prog.cellsOf 9))=some y1:=hg 1 _ rfl;rw [Jdi] at k0;rw [Ja1] at k1;obtain⟨k,hk,jl,_⟩:=DataW.trod_int Tryz.underlying3 k0;obtain⟨s,hs,bV,_⟩:=DataW.trod_string Tryz.underlying9 k1;simp at hk hs;subst hk hs;subst jl bV;have hd:(DataW.agg [.lit (.int .i64 0),.lit (.string [])]:DataW Unit) = .agg [.lit (.int .i64 k),.lit (.string s.data.toList)]:=hx;injection hd with hd;injection hd with h1 h2;injection h1 with h1;injection h1 with _ h1;injection h2 with h2 _;injection h2 with h2;injection h2 with h2;have xe:s=⟨#[]⟩:=WideShapes.bytes_inj (by rw [<-h2]);subst h1 xe;have e0:=World.var?_cell hg0 dD 0;have e1:=World.var?_cell hg0 dD 1;exact⟨by simpa using e0,by simpa using e1⟩
section
variable {H:Type} {enc:TypeId×Value->H} {w:World} {spare:Nat->Bool} {held:Bool}
end
end Go.Proofs.YtknfcamdfdfoeaaGreatDoor
namespace Go.Proofs.YtknfcamdfdfoeaaGreatDoor
open Go.RowKit Go.Sort
def Jc6 (p:Pr) (w:World) (r:Ending) (w':World):Prop:=(∃v,r = .returned (.tuple #[v,frT (Xg p).2.1,fV (Xg p).2.2])/\w'.ownsRow w.heap.size 59 2 v (Xg p).1.length (cdC (Xg p).1))/\Below w.heap.size w w'
theorem Jc6.yes {p:Pr} {w w':World} {r:Ending} (h:(Kf p).2=(0,0,0)) (hc:Jgs p w r w'):Jc6 p w r w':=by
 obtain⟨hc,ab⟩:=hc;refine⟨?_,ab⟩;unfold Xg;rw [if_pos h]
 by_cases h6:600<(Xs p).length
 ·rw [if_pos h6] at hc;rw [if_pos h6];exact⟨_,hc,Nw⟩
 ·rw [if_neg h6] at hc;rw [if_neg h6];obtain⟨v,hr,ae⟩:=hc;exact⟨v,hr,ae⟩
theorem Jc6.no {p:Pr} {w w':World} {r:Ending} (h:(Kf p).2≠(0,0,0)) (hc:r = .returned (.tuple #[.slice none 0 0,Jme,fV (Kf p).2])/\Below w.heap.size w w'):Jc6 p w r w':=by
 obtain⟨hr,ab⟩:=hc;refine⟨?_,ab⟩;unfold Xg;rw [if_neg h];exact⟨_,hr,Nw⟩
theorem Jt8 (p:Pr) (a:PrA) (w:World) (hp:Kr w p a) (aw:Q4 p) (n1:p.ins.length<=1000000) (n2:p.outs.length<=1000000) (n3:p.locals.length<=1000000) (n4:p.eqs.length<=1000000) :
  Calls Tryz.prog 9 #[prV p a] w (Jc6 p w):=by
 by_cases h:(Kf p).2=(0,0,0)
 ·obtain⟨hS,hb⟩:=Jbb h;exact(Jup p a w hp aw n1 n2 n3 n4 hS hb).mono fun r w' hc=>Jc6.yes h hc
 ·exact(Jw2 p a w hp aw n1 n2 n3 n4 h).mono fun r w' hc=>Jc6.no h hc
theorem Jqh (l:List (Int×Int)) (A:Option Addr) (cap:Nat) (B:Option Addr) (capB:Nat) (w:World) (h1:J3 w l A cap) (h2:J3 w l B capB) :
  Calls Tryz.prog 10 #[.slice A l.length cap,.slice B l.length capB] w fun r w'=>r = .returned (.bool true)/\Below w.heap.size w w':=by
 have l1:=h1.1;have l2:=h2.1;have m1:=h1.2.1;have m2:=h2.2.1;unfold maxLen at m1 m2;have fM:Tryz.prog.eqGuardType Tryz.prog.depth 59=false:=Ug
 go_enter Tryz.func10,Tryz.ntmps10
 go_wp2_with fail
 go_loopw [5] (fun i wr=>∃(k:Nat),k<=l.length/\i = .int .i64 k/\Below w.heap.size w wr) (fun i _=>l.length-(intOf i).toNat)
 case atStart=>exact⟨0,Np,rfl,Nt⟩
 case round=>
  obtain⟨k,hk,rfl,ab⟩:=hrel
  by_cases am:k<l.length
  ·have hx:l[k]?=some l[k]:=Ng am;generalize l[k]=x at hx;have aY:=Joi l k x hx;obtain⟨b,off,rfl,cB⟩:=(h1.later ab).2.2.2 Ua;obtain⟨b2,off2,rfl,oP⟩:=(h2.later ab).2.2.2 Ua;have d0:=cB _ _ aY.1;have d1:=Nb wr b (off+k * 2+1) (.int .i32 x.2) (cB _ _ aY.2);have e0:=oP _ _ aY.1;have e1:=Nb wr b2 (off2+k * 2+1) (.int .i32 x.2) (oP _ _ aY.2);obtain⟨x1,x2⟩:=x;dsimp only at d0 d1 e0 e1;have dp:=fun w=>Jxg x1 x2 w;have aH:=Nu d0;have bG:=Nu e0;clear hx aY cB oP;exact Uf9
  ·obtain rfl:k=l.length:=Ua
   go_wp2_with fail
   go_ret;exact⟨rfl,ab⟩
theorem Kbs (m:Im) (a b:ImA) (w:World) (ha:Jd5 w m a) (hb:Jd5 w m b) :
  Calls Tryz.prog 15 #[imV m a,imV m b] w fun r w'=>r = .returned (.bool true)/\Below w.heap.size w w':=by
 have h1:=fun W (h:Below w.heap.size w W)=>Kct m.first a.A1 a.c1 b.A1 b.c1 W (ha.first.later h) (hb.first.later h);have h2:=fun W (h:Below w.heap.size w W)=>Jqh m.step a.A2 a.c2 b.A2 b.c2 W (ha.step.later h) (hb.step.later h);have h3:=fun W (h:Below w.heap.size w W)=>Jqh m.move a.A3 a.c3 b.A3 b.c3 W (ha.move.later h) (hb.move.later h);have H1:=Nf h1;have H2:=Nf h2;have H3:=Nf h3;have uf:=fun w=>Jra m.fr.s m.fr.o m.fr.n m.fr.i m.fr.u w;have fM:Tryz.prog.eqGuardType Tryz.prog.depth 31=false:=Ug;clear ha hb h1 h2 h3;obtain⟨A1,c1,A2,c2,A3,c3⟩:=a;obtain⟨B1,d1,B2,d2,B3,d3⟩:=b;unfold imV;dsimp only at *
 go_enter Tryz.func15,Tryz.ntmps15
 go_upto_region 1 with fail
 refine Jo fun W0 ag=>?_;have HX:Hid (ImB W0 w.heap.size (imC m ⟨A1,c1,A2,c2,A3,c3⟩)):=by rw [ag];exact Nf ((ImB.new _ _ _).later (Jc (Nt) _))
 have HY:Hid (ImB W0 (w.heap.size+1) (imC m ⟨B1,d1,B2,d2,B3,d3⟩)):=by
  rw [ag];have:=ImB.new (w.alloc (.cells (imC m ⟨A1,c1,A2,c2,A3,c3⟩).toArray 43)) (imC m ⟨B1,d1,B2,d2,B3,d3⟩) 43;rw [show(w.alloc (.cells (imC m ⟨A1,c1,A2,c2,A3,c3⟩).toArray 43)).heap.size=w.heap.size+1 by simp] at this;exact Nf this
 have aC:=Nd w W0 Uo;have x0:=HX.out 0 _ rfl;have x1:=HX.out 1 _ rfl;have x2:=HX.out 2 _ rfl;have x3:=HX.out 3 _ rfl;have x4:=HX.out 4 _ rfl;have x5:=HX.out 5 _ rfl;have x6:=HX.out 6 _ rfl;have x7:=HX.out 7 _ rfl;have x8:=HX.out 8 _ rfl;have y0:=HY.out 0 _ rfl;have y1:=HY.out 1 _ rfl;have y2:=HY.out 2 _ rfl;have y3:=HY.out 3 _ rfl;have y4:=HY.out 4 _ rfl;have y5:=HY.out 5 _ rfl;have y6:=HY.out 6 _ rfl;have y7:=HY.out 7 _ rfl;have y8:=HY.out 8 _ rfl;clear ag
 go_wp2_with (first
  | (have hg:=aq;go_at_call 10;go_loud (refine(H3.out _ (Jd (Jd aC ac) aq)).mono ?_;rintro r w3 ⟨rfl,aM⟩;have x11:=Ja (Jd (Jd ac aq) aM) (HX.out 11 _ rfl);have y11:=Ja (Jd (Jd ac aq) aM) (HY.out 11 _ rfl);have x12:=Ja (Jd (Jd ac aq) aM) (HX.out 12 _ rfl);have y12:=Ja (Jd (Jd ac aq) aM) (HY.out 12 _ rfl)))
  | (have hg:=ac;go_at_call 10;go_loud (refine(H2.out _ (Jd aC ac)).mono ?_;rintro r w2 ⟨rfl,aq⟩;have x10:=Ja (Jd ac aq) (HX.out 10 _ rfl);have y10:=Ja (Jd ac aq) (HY.out 10 _ rfl)))
  | (go_at_call 40;go_loud (refine(H1.out _ aC).mono ?_;rintro r w1 ⟨rfl,ac⟩;have x9:=Ja ac (HX.out 9 _ rfl);have y9:=Ja ac (HY.out 9 _ rfl))))
 go_ret;exact⟨rfl,Jd (Jd (Jd aC ac) aq) aM⟩
theorem Kcp (p:Pr) (a:PrA) (w:World) (hp:Kr w p a) (aw:Q4 p) (n1:p.ins.length<=1000000) (n2:p.outs.length<=1000000) (n3:p.locals.length<=1000000) (n4:p.eqs.length<=1000000) :
  Calls Tryz.prog 37 #[prV p a] w fun r w'=>(∃v,r = .returned (.tuple #[v,fV (Kf p).2])/\w'.ownsRow w.heap.size 21 1 v (Kf p).1.length ((Kf p).1.map (fun c=> .int .i32 c.first)))/\Below w.heap.size w w':=by
 have ah:=fun W h=>Jkw p a W (hp.later h) aw n1 n2 n3 n4;unfold Je7 at ah
 have dP:(Kf p).1.length<=16:=by
  rcases Je5 p with ⟨h1,h2⟩|⟨h1,h2,h3⟩
  ·rw [h2];simp
  ·rw [h3];dsimp only;omega
 obtain⟨A1,c1,A2,c2,A3,c3,A4,c4⟩:=a;generalize (Kf p).1=cl at *;generalize (Kf p).2=cf at *;obtain⟨k1,k2,k3⟩:=cf;unfold prV fV at *;dsimp only at *;clear hp aw
 go_enter Tryz.func37,Tryz.ntmps37
 go_wp2_with (first|(go_at_call 25;refine(ah _ Jb).mono ?_;rintro r wa ⟨⟨v,rfl,ae⟩,aA⟩;obtain⟨Ac,cc,rfl,oS,nx⟩:=Jv ae;have aW:=Jg aA;have bS:=Jf aA;have cN:w.heap.size+2<=wa.heap.size:=Ut))
 refine Jo fun W0 ag=>?_;have ax:=Nd w W0 Uo;have aQ:=Nd wa W0 Uo;have bD:w.heap.size+3<=W0.heap.size:=Su;unfold maxLen at nx
 have lO:Jbh W0 cl Ac cc:=by
  exact Ugh
 have g0:=Na W0 (w.heap.size+1) 0 0 (Ja aQ Udi);have g1:=Na W0 (w.heap.size+1) 1 0 (Ja aQ Udi);have g2:=Na W0 (w.heap.size+1) 2 0 (Ja aQ Udi);have f0:=Nc W0 (w.heap.size+1) 0 ((Jf aQ _ _ Ua).trans ((bS _ _ Ul).trans Uq));have f1:=Nc W0 (w.heap.size+1) 1 ((Jf aQ _ _ Ua).trans ((bS _ _ Ul).trans Uq));have f2:=Nc W0 (w.heap.size+1) 2 ((Jf aQ _ _ Ua).trans ((bS _ _ Ul).trans Uq));have e0:=Na W0 wa.heap.size 0 k1 Uc;have e1:=Na W0 wa.heap.size 1 k2 Uc;have e2:=Na W0 wa.heap.size 2 k3 Uc;have uX:wa.heap.size<W0.heap.size:=La;have uQ:=Jyk;clear ag aW bS aA aQ ae ah
 go_loopw [6,7] (fun v i wr=>∃(k:Nat),k<=cl.length/\i = .int .i64 k/\Hid (wr.ownsRow W0.heap.size 21 1 v k ((cl.take k).map (fun c=> .int .i32 c.first)))/\Below W0.heap.size W0 wr) (fun _ i _=>cl.length-(intOf i).toNat)
 case atStart=>exact⟨0,Np,rfl,Nf (Nw),Nt⟩
 case round=>
  obtain⟨k,hk,rfl,ae,ab⟩:=hrel;have bu:=ab.size
  by_cases am:k<cl.length
  ·have hx:cl[k]?=some cl[k]:=Ng am;have aP:cl.take (k+1)=cl.take k ++ [cl[k]]:=U6;generalize cl[k]=x at hx aP;obtain⟨b,off,rfl,cB⟩:=(lO.later ab).2.2.2 Ua;have aY:=Jdh cl k x hx;have d3:=Nb wr b (off+k * 4+3) (.int .i32 x.first) (cB _ _ aY.2.2.2);have eZ:=Nf aP;clear hx aP cB aY
   go_wp2_with (at_builtin;go_loud (refine Kap rfl (.tmp 19) (.tmp 25) 41 rfl W0.heap.size 21 _ 1 4 Tryz.underlying41 uQ rfl Ua _ k _ _ 1 [.int .i32 x.first] rfl (Js ae.out) rfl rfl (fun j u hj=>Udt) Uv Ua Ua Uj ?_;intro v2 w2 ao aq;have sK:=Nf ao;clear ao))
   exact Uga
  ·obtain rfl:k=cl.length:=Ua;have ae:=ae.out;rw [List.take_length] at ae;obtain⟨Ae,ce,rfl,zY,rO⟩:=Jv ae;have g0':=Ja ab g0;have g1':=Ja ab g1;have g2':=Ja ab g2;have e0':=Ja ab e0;have e1':=Ja ab e1;have e2':=Ja ab e2;have f0':=(Jf ab _ 0 Ua).trans f0;have f1':=(Jf ab _ 1 Ua).trans f1;have f2':=(Jf ab _ 2 Ua).trans f2;have lw:∀b,(Value.slice Ae cl.length ce).ownBlock=some b->b≠w.heap.size+1:=fun b hb he=>Ft;have HOW:=Nf (K8 ae (B':=w.heap.size) Ua);have aC:=Nd w wr (Jd ax ab);clear ae
   go_wp2_with fail
   go_region
   all_goals
    go_wp2_with fail
    refine Nv (v:= .tuple #[.slice Ae cl.length ce,.agg #[.int .i64 k1,.int .i64 k2,.int .i64 k3]]) (by simp [results,Tryz.results37,go_sem, *]) rfl ?_;refine⟨⟨_,rfl,Kn (Kn (Kn HOW.out lw 0 _) lw 1 _) lw 2 _⟩,?_⟩
    (repeat refine Jh ?_)
    exact Km
theorem Kc0 {p:Pr} (h:(Xg p).2.2≠(0,0,0)):(Xg p).2.2.2.2≠0:=by
 unfold Xg at h ⊢
 by_cases hc:(Kf p).2=(0,0,0)
 ·rw [if_pos hc] at h ⊢
  by_cases h6:600<(Xs p).length
  ·rw [if_pos h6];show(3:Int)≠0;decide
  ·rw [if_neg h6] at h;exact absurd rfl h
 ·rw [if_neg hc];unfold Kf at hc ⊢
  by_cases hs:Ks p=(0,0,0)
  ·rw [if_pos hs] at hc ⊢
   by_cases hb:16<(Jq p).length
   ·rw [if_pos hb];show(3:Int)≠0;decide
   ·rw [if_neg hb] at hc;exact absurd rfl hc
  ·rw [if_neg hs];exact Jkq hs
def Kax (p:Pr) (v:Int) (w:World) (r:Ending) (w':World):Prop:=(∃ia,r = .returned (.tuple #[imV (imE p v).1 ia,fV (imE p v).2])/\Jd5 w' (imE p v).1 ia)/\Below w.heap.size w w'
theorem Kb1 (p:Pr) (a:PrA) (v:Int) (w:World) (hp:Kr w p a) (aw:Q4 p) (n1:p.ins.length<=1000000) (n2:p.outs.length<=1000000) (n3:p.locals.length<=1000000) (n4:p.eqs.length<=1000000) (hf:(Xg p).2.2≠(0,0,0)) :
  Calls Tryz.prog 14 #[prV p a,.int .u32 v] w (Kax p v w):=by
 have aZ:=fun W h=>Jt8 p a W (hp.later h) aw n1 n2 n3 n4;have hsid:∀(W:World) (b o:Nat) (v:Value),W.cell? ⟨b,o,none⟩=some v->W.setCell ⟨b,o,none⟩ v=W:=fun _ _ _ _ h=>Jry h;have aS:=Kc0 hf;unfold Kax Jc6 at *;rw [show imE p v=(Im.zero,(Xg p).2.2) by unfold imE;rw [if_pos hf]];obtain⟨A1,c1,A2,c2,A3,c3,A4,c4⟩:=a;unfold prV fV frT at *;dsimp only at *;generalize (Xg p).2.2.1=k1 at *;generalize (Xg p).2.2.2.1=k2 at *;generalize (Xg p).2.2.2.2=k3 at *;generalize (Xg p).2.1=fr at *;generalize (Xg p).1=cl at *;have t3:(k3 != 0)=true:=Se;clear hp aw hf aS
 go_enter Tryz.func14,Tryz.ntmps14
 go_upto_region 2 with (go_at_call 9;go_loud (refine(aZ _ Jb).mono ?_;rintro r wa ⟨⟨vc,rfl,ae⟩,aA⟩))
 refine Jo fun V hV=>?_;have hi:Ja9 w V:=Vu;have s0:=Na V (wa.heap.size+1) 0 k1 U3;have s1:=Na V (wa.heap.size+1) 1 k2 U3;have s2:=Na V (wa.heap.size+1) 2 k3 U3;have cN:w.heap.size+3<=wa.heap.size:=Ut;have z0:=Nb V (w.heap.size+1) 0 (.int .u32 0) (hi.z 0 _ rfl);have z1:=Nb V (w.heap.size+1) 1 (.int .u32 0) (hi.z 1 _ rfl);have z2:=Na V (w.heap.size+1) 2 0 (hi.z 2 _ rfl);have z3:=Na V (w.heap.size+1) 3 0 (hi.z 3 _ rfl);have z4:=Na V (w.heap.size+1) 4 0 (hi.z 4 _ rfl);have z5:=Na V (w.heap.size+1) 5 0 (hi.z 5 _ rfl);have z6:=Na V (w.heap.size+1) 6 0 (hi.z 6 _ rfl);have z7:=Na V (w.heap.size+1) 7 0 (hi.z 7 _ rfl);have z8:=Nb V (w.heap.size+1) 8 (.slice none 0 0) (hi.z 8 _ rfl);have z9:=Nb V (w.heap.size+1) 9 (.slice none 0 0) (hi.z 9 _ rfl);have z10:=Nb V (w.heap.size+1) 10 (.slice none 0 0) (hi.z 10 _ rfl);have z11:=Na V (w.heap.size+1) 11 0 (hi.z 11 _ rfl);have z12:=Na V (w.heap.size+1) 12 0 (hi.z 12 _ rfl);have y0:=Nc V (w.heap.size+1) 0 (hi.fz 0);have y1:=Nc V (w.heap.size+1) 1 (hi.fz 1);have y2:=Nc V (w.heap.size+1) 2 (hi.fz 2);have y3:=Nc V (w.heap.size+1) 3 (hi.fz 3);have y4:=Nc V (w.heap.size+1) 4 (hi.fz 4);have y5:=Nc V (w.heap.size+1) 5 (hi.fz 5);have y6:=Nc V (w.heap.size+1) 6 (hi.fz 6);have y7:=Nc V (w.heap.size+1) 7 (hi.fz 7);have y8:=Nc V (w.heap.size+1) 8 (hi.fz 8);have y9:=Nc V (w.heap.size+1) 9 (hi.fz 9);have y10:=Nc V (w.heap.size+1) 10 (hi.fz 10);have y11:=Nc V (w.heap.size+1) 11 (hi.fz 11);have y12:=Nc V (w.heap.size+1) 12 (hi.fz 12);have f0:=Na V (w.heap.size+1+1) 0 0 hi.f.1;have f1:=Na V (w.heap.size+1+1) 1 0 hi.f.2.1;have f2:=Na V (w.heap.size+1+1) 2 0 hi.f.2.2;have ff0:=Nc V (w.heap.size+1+1) 0 (hi.ff 0);have ff1:=Nc V (w.heap.size+1+1) 1 (hi.ff 1);have ff2:=Nc V (w.heap.size+1+1) 2 (hi.ff 2);have HI:=Nf hi;clear hV hi aZ ae aA
 go_upto_region 3 with fail
 have ar:(fun w':World=>w'.cell? ⟨wa.heap.size+1,0,none⟩=some (.int .i64 k1)/\w'.cell? ⟨wa.heap.size+1,1,none⟩=some (.int .i64 k2)/\w'.cell? ⟨wa.heap.size+1,2,none⟩=some (.int .i64 k3)) V.drew:=⟨s0,s1,s2⟩;dsimp only at ar;refine Kd (fun w'=>w'.cell? ⟨wa.heap.size+1,0,none⟩=some (.int .i64 k1)/\w'.cell? ⟨wa.heap.size+1,1,none⟩=some (.int .i64 k2)/\w'.cell? ⟨wa.heap.size+1,2,none⟩=some (.int .i64 k3)) 3 1 Ug Gd ?_;simp only [List.size_toArray,Nl,Nm,Nat.zero_add,Nat.reduceAdd];refine Ji 0 ar ?_;refine Ji 1 ar ?_;refine Kb 2 ?_;refine Jj fun K hK=>?_;go_simp;refine hK _ _ ⟨ar,Kh Ug ?_⟩;clear hK K
 try simp only [Act.put,sa1,sa2,sa3]
 refine Qx 3 ?_;refine Jj fun K hK=>?_;go_simp;refine hK _ _ ?_;clear hK K
 try simp only [Act.put,sa1,sa2,sa3]
 refine Ki Ug ?_;clear ar
 go_wp2_with fail
 refine Nv (v:= .tuple #[.agg #[.int .u32 0,.int .u32 0,.int .i64 0,.int .i64 0,.int .i64 0,.int .i64 0,.int .i64 0,.int .i64 0,.slice none 0 0,.slice none 0 0,.slice none 0 0,.int .i64 0,.int .i64 0],.agg #[.int .i64 k1,.int .i64 k2,.int .i64 k3]]) Mj rfl ⟨⟨⟨none,0,none,0,none,0⟩,rfl,Jiw _⟩,?_⟩;exact Qq _ _ _ (Jd HI.out.bel (Jh (Nt))) Ua
theorem Kb8 (p:Pr) (a:PrA) (w:World) (hp:Kr w p a) (aw:Q4 p) (n1:p.ins.length<=1000000) (n2:p.outs.length<=1000000) (n3:p.locals.length<=1000000) (n4:p.eqs.length<=1000000) (hf:(Xg p).2.2=(0,0,0)) :
  Calls Tryz.prog 14 #[prV p a,.int .u32 0] w (Kax p 0 w):=by
 have aZ:=fun W h=>Jt8 p a W (hp.later h) aw n1 n2 n3 n4;have hsid:∀(W:World) (b o:Nat) (v:Value),W.cell? ⟨b,o,none⟩=some v->W.setCell ⟨b,o,none⟩ v=W:=fun _ _ _ _ h=>Jry h;unfold Kax Jc6 at *;rw [show imE p 0=(Im.zero,(4,0,1)) by unfold imE;rw [if_neg (fun h=>h hf),if_pos rfl]];rw [hf] at aZ;obtain⟨A1,c1,A2,c2,A3,c3,A4,c4⟩:=a;unfold prV fV frT at *;dsimp only at *;generalize (Xg p).2.1=fr at *;generalize (Xg p).1=cl at *;clear hp aw hf
 go_enter Tryz.func14,Tryz.ntmps14
 go_upto_region 2 with (go_at_call 9;go_loud (refine(aZ _ Jb).mono ?_;rintro r wa ⟨⟨vc,rfl,ae⟩,aA⟩))
 refine Jo fun V hV=>?_;have hi:Ja9 w V:=Vu;have s2:=Na V (wa.heap.size+1) 2 0 U3;have z0:=Nb V (w.heap.size+1) 0 (.int .u32 0) (hi.z 0 _ rfl);have z1:=Nb V (w.heap.size+1) 1 (.int .u32 0) (hi.z 1 _ rfl);have z2:=Na V (w.heap.size+1) 2 0 (hi.z 2 _ rfl);have z3:=Na V (w.heap.size+1) 3 0 (hi.z 3 _ rfl);have z4:=Na V (w.heap.size+1) 4 0 (hi.z 4 _ rfl);have z5:=Na V (w.heap.size+1) 5 0 (hi.z 5 _ rfl);have z6:=Na V (w.heap.size+1) 6 0 (hi.z 6 _ rfl);have z7:=Na V (w.heap.size+1) 7 0 (hi.z 7 _ rfl);have z8:=Nb V (w.heap.size+1) 8 (.slice none 0 0) (hi.z 8 _ rfl);have z9:=Nb V (w.heap.size+1) 9 (.slice none 0 0) (hi.z 9 _ rfl);have z10:=Nb V (w.heap.size+1) 10 (.slice none 0 0) (hi.z 10 _ rfl);have z11:=Na V (w.heap.size+1) 11 0 (hi.z 11 _ rfl);have z12:=Na V (w.heap.size+1) 12 0 (hi.z 12 _ rfl);have y0:=Nc V (w.heap.size+1) 0 (hi.fz 0);have y1:=Nc V (w.heap.size+1) 1 (hi.fz 1);have y2:=Nc V (w.heap.size+1) 2 (hi.fz 2);have y3:=Nc V (w.heap.size+1) 3 (hi.fz 3);have y4:=Nc V (w.heap.size+1) 4 (hi.fz 4);have y5:=Nc V (w.heap.size+1) 5 (hi.fz 5);have y6:=Nc V (w.heap.size+1) 6 (hi.fz 6);have y7:=Nc V (w.heap.size+1) 7 (hi.fz 7);have y8:=Nc V (w.heap.size+1) 8 (hi.fz 8);have y9:=Nc V (w.heap.size+1) 9 (hi.fz 9);have y10:=Nc V (w.heap.size+1) 10 (hi.fz 10);have y11:=Nc V (w.heap.size+1) 11 (hi.fz 11);have y12:=Nc V (w.heap.size+1) 12 (hi.fz 12);have f0:=Na V (w.heap.size+1+1) 0 0 hi.f.1;have f1:=Na V (w.heap.size+1+1) 1 0 hi.f.2.1;have f2:=Na V (w.heap.size+1+1) 2 0 hi.f.2.2;have ff0:=Nc V (w.heap.size+1+1) 0 (hi.ff 0);have ff1:=Nc V (w.heap.size+1+1) 1 (hi.ff 1);have ff2:=Nc V (w.heap.size+1+1) 2 (hi.ff 2);have HI:=Nf hi;clear hV hi aZ ae aA
 go_wp2_with fail
 refine Nv (v:= .tuple #[.agg #[.int .u32 0,.int .u32 0,.int .i64 0,.int .i64 0,.int .i64 0,.int .i64 0,.int .i64 0,.int .i64 0,.slice none 0 0,.slice none 0 0,.slice none 0 0,.int .i64 0,.int .i64 0],.agg #[.int .i64 4,.int .i64 0,.int .i64 1]]) Mj rfl ⟨⟨⟨none,0,none,0,none,0⟩,rfl,Jiw _⟩,?_⟩;exact Below.setCell (Below.setCell HI.out.bel (show w.heap.size<=w.heap.size+1+1 by omega) _) (show w.heap.size<=w.heap.size+1+1 by omega) _
theorem Kb5 (p:Pr) (a:PrA) (v:Int) (w:World) (hp:Kr w p a) (aw:Q4 p) (n1:p.ins.length<=1000000) (n2:p.outs.length<=1000000) (n3:p.locals.length<=1000000) (n4:p.eqs.length<=1000000) (hf:(Xg p).2.2=(0,0,0)) (hv:0<v/\v<4294967296) :
  Calls Tryz.prog 14 #[prV p a,.int .u32 v] w (Kax p v w):=by
 have aZ:=fun W h=>Jt8 p a W (hp.later h) aw n1 n2 n3 n4;have gR:=fun W h=>Kcp p a W (hp.later h) aw n1 n2 n3 n4;obtain⟨hS,tY,lR,et⟩:=Jvd hf;have bO:=Jff hS;unfold Jc6 at aZ;rw [et] at aZ;rw [show Kf p=(Jq p,(0,0,0)) by unfold Kf;rw [if_pos hS,if_neg tY]] at gR;have hN:=Jvr bO aw tY;have sB:Jsj (Jd8 p v):=⟨Tm,Tm,Jt7 aw,hN,fun i hi=>by cases hi⟩;have hw:=Kca bO tY lR hv.1;have hie:imE p v=if (Jdl (Jd8 p v)).2≠0 then(Im.zero,(4,0,(Jdl (Jd8 p v)).2)) else(Jd8 p v,(0,0,0)):=by unfold imE;rw [if_neg (fun h=>h hf),if_neg Ua]
 have pl:=fun A cap W h=>Ka0 (Xs p) A cap (Jke p) W h hN (Kbb bO tY lR);have yj:(Jq p).map (fun c=>Value.int .i32 c.first)=nuI ((Jq p).map (·.first)):=by unfold nuI;rw [List.map_map];rfl
 rw [yj] at gR
 have tZ:=fun(A:Option Addr) (cap:Nat) (A5:Option Addr) (c5:Nat) W (h1:Qc W (nuI ((Jq p).map (·.first))) (Jq p).length A5 c5) (h2:J3 W (Xs p) A cap)=>
  Kbo (Jd8 p v) ⟨A5,c5,A,cap,none,0⟩ W ⟨Lv,h2,Jar _⟩ sB hw
 have jP:∀(A:Option Addr) (cap:Nat) (A5:Option Addr) (c5:Nat),imV (Jd8 p v) ⟨A5,c5,A,cap,none,0⟩ = .agg #[.int .u32 v,.int .u32 0,.int .i64 0,.int .i64 (Je p).length,.int .i64 (Jq p).length,.int .i64 (Jq p).length,.int .i64 p.ins.length,.int .i64 p.outs.length,.slice A5 (Jq p).length c5,.slice A (Xs p).length cap,.slice none 0 0,.int .i64 (Yi (Xs p) (Jke p)).1.2,.int .i64 0]:=fun A cap A5 c5=>by
  unfold imV Jd8 Jke;exact Ul
 rw [show frV (Jke p) = .agg #[.int .i64 (Je p).length,.int .i64 (Jq p).length,.int .i64 (Jq p).length,.int .i64 p.ins.length,.int .i64 p.outs.length] from rfl] at pl;simp only [jP] at tZ;have hsid:∀(W:World) (b o:Nat) (v:Value),W.cell? ⟨b,o,none⟩=some v->W.setCell ⟨b,o,none⟩ v=W:=fun _ _ _ _ h=>Jry h;obtain⟨A1,c1,A2,c2,A3,c3,A4,c4⟩:=a;have tv:(v == 0)=false:=Uj;unfold Kax;obtain⟨M,hM⟩:∃M,M=imE p v:=⟨_,rfl⟩;rw [<-hM];rw [hie] at hM;unfold prV fV frT at *;dsimp only at *;clear hp aw hf hie et bO hN sB yj tY lR hS hw;generalize hee:Jdl (Jd8 p v)=E at *;generalize hjj:Yi (Xs p) (Jke p)=J at *;have fY:=Nf jP;clear jP hee;generalize cp:nuI ((Jq p).map (·.first))=nu at *;generalize yl:Xs p=cl at *;have HNU:=Nf cp;have mK:=Nf yl;clear cp yl hjj;generalize jq:(Je p).length=nv at *;generalize xz:(Jq p).length=nc at *;generalize hni:p.ins.length=ni at *;generalize oG:p.outs.length=no at *;clear jq;have HNC:=Nf xz;clear xz hni oG;obtain⟨El,Ee⟩:=E;dsimp only at *;have HIE:=Nf hM;clear hM
 go_enter Tryz.func14,Tryz.ntmps14
 go_upto_region 2 with (go_at_call 9;go_loud (refine(aZ _ Jb).mono ?_;rintro r wa ⟨⟨vc,rfl,ae⟩,aA⟩;obtain⟨A,cap,rfl,aY⟩:=J3.of_own ae;have lS:∀b off,A=some ⟨b,off,none⟩->w.heap.size+3<=b:=(fun b off h=>by have:=(ae.lt b Sl).1;simpa using this)))
 refine Jo fun V hV=>?_;have bK:=Nd wa V Mv;have hi:Ja9 w V:=Vu;have s2:=Na V (wa.heap.size+1) 2 0 U3;have k0:=Na V wa.heap.size 0 nv U3;have k1:=Na V wa.heap.size 1 nc U3;have k2:=Na V wa.heap.size 2 nc U3;have k3:=Na V wa.heap.size 3 ni U3;have k4:=Na V wa.heap.size 4 no U3;have p0:=Nb V w.heap.size 0 (.string p.name) (Ja bK (Ja aA Uq));have p1:=Nb V w.heap.size 1 (.slice A1 ni c1) (Ja bK (Ja aA Uq));have p2:=Nb V w.heap.size 2 (.slice A2 no c2) (Ja bK (Ja aA Uq));have p3:=Nb V w.heap.size 3 (.slice A3 p.locals.length c3) (Ja bK (Ja aA Uq));have p4:=Nb V w.heap.size 4 (.slice A4 p.eqs.length c4) (Ja bK (Ja aA Uq));have HI:=Nf hi;have yn:=Nf lS;have ua:=Nf (aY.later bK);clear hV hi aZ aY ae lS bK aA
 go_upto_region 7 with (go_at_call 37;go_loud (refine(gR _ HI.out.bel).mono ?_;rintro r wf ⟨⟨vf,rfl,gw⟩,bZ⟩;obtain⟨A5,c5,rfl,ub⟩:=Qc.of_own gw))
 refine Jo fun V2 bz=>?_;have aq:=Nd V V2 (by rw [bz];exact Jc bZ _)
 have HF:=Nf (show Qc V2 nu nc A5 c5 by rw [bz];exact ub.later (Jc (Nt) _));have HFO:=Nf (show V2.ownsRow V.heap.size 21 1 (.slice A5 nc c5) nc nu by rw [bz];exact Js gw);replace k0:=Ja aq k0;replace k1:=Ja aq k1;replace k2:=Ja aq k2;replace k3:=Ja aq k3;replace k4:=Ja aq k4;have mU:=Nf (HI.out.later aq);have pn:=Nf (ua.out.later aq);have mQ:=HI.out.lt;clear bz aq gR ub gw bZ HI ua p0 p1 p2 p3 p4 s2
 go_upto_region 9 with (go_at_call 38;go_loud (refine(pl A cap _ pn.out).mono ?_;rintro r wj ⟨rfl,dQ⟩;have q0:=Ja dQ k0;have q1:=Ja dQ k1;have q2:=Ja dQ k2;have q3:=Ja dQ k3;have q4:=Ja dQ k4;have bh:=Nu q0))
 refine Jo fun V3 dl=>?_;have aM:=Nd V2 V3 (by rw [dl];exact Jc (Jc dQ _) _)
 have HM3:Hid (ImB V3 (wj.heap.size+1) [.int .u32 v,.int .u32 0,.int .i64 0,.int .i64 nv,.int .i64 nc,.int .i64 nc,.int .i64 ni,.int .i64 no,.slice A5 nc c5,.slice A cl.length cap,.slice none 0 0,.int .i64 J.1.2,.int .i64 0]):=by
  rw [dl];have:=ImB.new (wj.alloc (.cells #[.int .i64 J.1.1,.int .i64 J.1.2] 101)) [.int .u32 v,.int .u32 0,.int .i64 0,.int .i64 nv,.int .i64 nc,.int .i64 nc,.int .i64 ni,.int .i64 no,.slice A5 nc c5,.slice A cl.length cap,.slice none 0 0,.int .i64 J.1.2,.int .i64 0] 43;rw [show(wj.alloc (.cells #[.int .i64 J.1.1,.int .i64 J.1.2] 101)).heap.size=wj.heap.size+1 by simp] at this;exact Nf this
 have HF3:=Nf (HF.out.later aM);have HFO3:=Nf (Jy HFO.out aM);have lQ:=Nf (mU.out.later aM);have lT:=Nf (pn.out.later aM);have hzj:w.heap.size+3<=wj.heap.size:=by have h1:=mU.out.lt;have h2:=dQ.size;omega
 clear dl aM pl dQ HF HFO mU pn k0 k1 k2 k3 k4 q0 q1 q2 q3 q4;have x0:=HM3.out 0 _ rfl;have x1:=HM3.out 1 _ rfl;have x2:=HM3.out 2 _ rfl;have x3:=HM3.out 3 _ rfl;have x4:=HM3.out 4 _ rfl;have x5:=HM3.out 5 _ rfl;have x6:=HM3.out 6 _ rfl;have x7:=HM3.out 7 _ rfl;have x8:=HM3.out 8 _ rfl;have x9:=HM3.out 9 _ rfl;have x10:=HM3.out 10 _ rfl;have x11:=HM3.out 11 _ rfl;have x12:=HM3.out 12 _ rfl
 go_upto_region 10 with (go_at_call 39;go_loud (refine(tZ A cap A5 c5 _ HF3.out lT.out).mono ?_;rintro r we ⟨⟨Ae,ce,rfl⟩,ef⟩))
 refine Jo fun V5 gy=>?_;have da:=Nd V3 V5 (by rw [gy];exact ef)
 have bP:=lQ.out.later da;have HM5:=Nf (HM3.out.later da);have HFO5:=Nf (Jy HFO3.out da);have yo:=Nf (lT.out.later da);have z0:=Nb V5 (w.heap.size+1) 0 (.int .u32 0) (bP.z 0 _ rfl);have z1:=Nb V5 (w.heap.size+1) 1 (.int .u32 0) (bP.z 1 _ rfl);have z2:=Na V5 (w.heap.size+1) 2 0 (bP.z 2 _ rfl);have z3:=Na V5 (w.heap.size+1) 3 0 (bP.z 3 _ rfl);have z4:=Na V5 (w.heap.size+1) 4 0 (bP.z 4 _ rfl);have z5:=Na V5 (w.heap.size+1) 5 0 (bP.z 5 _ rfl);have z6:=Na V5 (w.heap.size+1) 6 0 (bP.z 6 _ rfl);have z7:=Na V5 (w.heap.size+1) 7 0 (bP.z 7 _ rfl);have z8:=Nb V5 (w.heap.size+1) 8 (.slice none 0 0) (bP.z 8 _ rfl);have z9:=Nb V5 (w.heap.size+1) 9 (.slice none 0 0) (bP.z 9 _ rfl);have z10:=Nb V5 (w.heap.size+1) 10 (.slice none 0 0) (bP.z 10 _ rfl);have z11:=Na V5 (w.heap.size+1) 11 0 (bP.z 11 _ rfl);have z12:=Na V5 (w.heap.size+1) 12 0 (bP.z 12 _ rfl);have y0:=Nc V5 (w.heap.size+1) 0 (bP.fz 0);have y1:=Nc V5 (w.heap.size+1) 1 (bP.fz 1);have y2:=Nc V5 (w.heap.size+1) 2 (bP.fz 2);have y3:=Nc V5 (w.heap.size+1) 3 (bP.fz 3);have y4:=Nc V5 (w.heap.size+1) 4 (bP.fz 4);have y5:=Nc V5 (w.heap.size+1) 5 (bP.fz 5);have y6:=Nc V5 (w.heap.size+1) 6 (bP.fz 6);have y7:=Nc V5 (w.heap.size+1) 7 (bP.fz 7);have y8:=Nc V5 (w.heap.size+1) 8 (bP.fz 8);have y9:=Nc V5 (w.heap.size+1) 9 (bP.fz 9);have y10:=Nc V5 (w.heap.size+1) 10 (bP.fz 10);have y11:=Nc V5 (w.heap.size+1) 11 (bP.fz 11);have y12:=Nc V5 (w.heap.size+1) 12 (bP.fz 12);have f0:=Na V5 (w.heap.size+1+1) 0 0 bP.f.1;have f1:=Na V5 (w.heap.size+1+1) 1 0 bP.f.2.1;have f2:=Na V5 (w.heap.size+1+1) 2 0 bP.f.2.2;have ff0:=Nc V5 (w.heap.size+1+1) 0 (bP.ff 0);have ff1:=Nc V5 (w.heap.size+1+1) 1 (bP.ff 1);have ff2:=Nc V5 (w.heap.size+1+1) 2 (bP.ff 2);have wK:=Nf bP;clear gy ef bP da tZ x0 x1 x2 x3 x4 x5 x6 x7 x8 x9 x10 x11 x12 HM3 HFO3 lT lQ HF3
 by_cases he:Ee=0
 ·subst he;have hM:=HIE.out;rw [if_neg Ux] at hM;have HMM:=Nf hM;clear hM HIE;have x0:=HM5.out 0 _ rfl;have x1:=HM5.out 1 _ rfl;have x2:=HM5.out 2 _ rfl;have x3:=HM5.out 3 _ rfl;have x4:=HM5.out 4 _ rfl;have x5:=HM5.out 5 _ rfl;have x6:=HM5.out 6 _ rfl;have x7:=HM5.out 7 _ rfl;have x8:=HM5.out 8 _ rfl;have x9:=HM5.out 9 _ rfl;have x10:=HM5.out 10 _ rfl;have x11:=HM5.out 11 _ rfl;have x12:=HM5.out 12 _ rfl
  go_wp2_with fail
  refine Nv (v:= .tuple #[.agg #[.int .u32 v,.int .u32 0,.int .i64 0,.int .i64 nv,.int .i64 nc,.int .i64 nc,.int .i64 ni,.int .i64 no,.slice A5 nc c5,.slice A cl.length cap,.slice none 0 0,.int .i64 J.1.2,.int .i64 0],.agg #[.int .i64 0,.int .i64 0,.int .i64 0]]) Mj rfl ⟨⟨⟨A5,c5,A,cap,none,0⟩,by rw [HMM.out,fY.out],?_⟩,?_⟩
  ·have cP:J3 V5 cl A cap:=yo.out;have hfi:=HFO5.out;rw [HMM.out];refine⟨?_,?_,Jar _⟩
   ·show Qc _ (nuI ((Jq p).map (·.first))) ((Jq p).map (·.first)).length A5 c5;rw [List.length_map,HNU.out,HNC.out];refine Qc.own2 (base:=V.heap.size) (e:=21) ?_;exact Ugd
   ·exact Uf7
  ·exact Ugb
 ·have hM:=HIE.out;rw [if_pos he] at hM;have HMM:=Nf hM;clear hM HIE;have te:(Ee != 0)=true:=Ta;clear he
  go_wp2_with fail
  refine Nv (v:= .tuple #[.agg #[.int .u32 0,.int .u32 0,.int .i64 0,.int .i64 0,.int .i64 0,.int .i64 0,.int .i64 0,.int .i64 0,.slice none 0 0,.slice none 0 0,.slice none 0 0,.int .i64 0,.int .i64 0],.agg #[.int .i64 4,.int .i64 0,.int .i64 Ee]]) Mj rfl ⟨⟨⟨none,0,none,0,none,0⟩,by rw [HMM.out];rfl,by rw [HMM.out];exact Jiw _⟩,?_⟩;exact Uf8
theorem Kci (p:Pr) (a:PrA) (v:Int) (w:World) (hp:Kr w p a) (aw:Q4 p) (n1:p.ins.length<=1000000) (n2:p.outs.length<=1000000) (n3:p.locals.length<=1000000) (n4:p.eqs.length<=1000000) (hv:0<=v/\v<4294967296) :
  Calls Tryz.prog 14 #[prV p a,.int .u32 v] w (Kax p v w):=by
 by_cases hf:(Xg p).2.2=(0,0,0)
 ·by_cases h0:v=0
  ·subst h0;exact Kb8 p a w hp aw n1 n2 n3 n4 hf
  ·exact Kb5 p a v w hp aw n1 n2 n3 n4 hf Ua
 ·exact Kb1 p a v w hp aw n1 n2 n3 n4 hf
theorem Kbp (p:Pr) (a:PrA) (v:Int) (w:World) (hg:Ql w) (hp:Kr w p a) (aw:Q4 p) (hv:0<=v/\v<4294967296) :
  Calls Tryz.prog 4 #[prV p a,.int .u32 v] w fun r w'=>r = .returned (.bool true)/\Below w.heap.size w w':=by
 have pT:=fun W h=>Js0 p a W (hp.later h);have hgi:=fun(n1:p.ins.length<=1000000) (n2:p.outs.length<=1000000) (n3:p.locals.length<=1000000) (n4:p.eqs.length<=1000000) W (h:Below w.heap.size w W)=>Jiy p a v W (hg.later h) (hp.later h) aw n1 n2 n3 n4 hv;have hri:=fun(n1:p.ins.length<=1000000) (n2:p.outs.length<=1000000) (n3:p.locals.length<=1000000) (n4:p.eqs.length<=1000000) W (h:Below w.heap.size w W)=>Kci p a v W (hp.later h) aw n1 n2 n3 n4 hv;have xg:=fun W h=>Jqw W (hg.later h);unfold Kax at hri;generalize (imE p v).1=M at *;have bF:=fun ia ib W h1 h2=>Kbs M ia ib W h1 h2;generalize (imE p v).2=F at *;obtain⟨k1,k2,k3⟩:=F;have dp:=fun w=>Jd6 k1 k2 k3 w;have fM:Tryz.prog.eqGuardType Tryz.prog.depth 34=false:=Ug;obtain⟨A1,c1,A2,c2,A3,c3,A4,c4⟩:=a;unfold prV fV at *;dsimp only at *;have HGI:=Nf hgi;have HRI:=Nf hri;have HSAME:=Nf bF;clear hg hp aw hgi hri bF
 go_enter Tryz.func4,Tryz.ntmps4
 go_upto_region 4 with (first
  | (go_at_call 5;go_loud (refine(pT _ Jb).mono ?_;rintro r wl ⟨⟨bl,rfl,wU⟩,ij⟩;have bO:=Jg ij;have su:=ij.size;(try simp at su);have hyl:=lt0 w wl;cases bl))
  | (go_at_call 13;go_loud (have hlb2:=wU Th;clear wU;have n1:p.ins.length<=1000000:=Ua;have n2:p.outs.length<=1000000:=Ua;have n3:p.locals.length<=1000000:=Ua;have n4:p.eqs.length<=1000000:=Ua;refine(HGI.out n1 n2 n3 n4 _ Jb).mono ?_;rintro r wk ⟨⟨ia,rfl,him⟩,hbk⟩;clear hlb2;obtain⟨B1,d1,B2,d2,B3,d3⟩:=ia;simp only [imV]))
  | (go_at_call 6;go_loud (refine(xg _ Jb).mono ?_;rintro r wn ⟨rfl,dI⟩)))
 ·go_ret;exact⟨rfl,Jb⟩
 refine Jo fun V hV=>?_;have fk:=Nd wk V Mv;have aC:=Nd w wk (Jd (show Below w.heap.size w wl from Jb) hbk);have bK:=Jd aC fk;have HX:Hid (ImB V wk.heap.size (imC M ⟨B1,d1,B2,d2,B3,d3⟩)):=by rw [hV];exact Nf ((ImB.new _ _ _).later (Jc (Nt) _))
 have s0:=Na V (wk.heap.size+1) 0 k1 U3;have s1:=Na V (wk.heap.size+1) 1 k2 U3;have s2:=Na V (wk.heap.size+1) 2 k3 U3;have p0:=Nb V w.heap.size 0 (.string p.name) (Ja fk (Ja hbk (Ja ij Uq)));have p1:=Nb V w.heap.size 1 (.slice A1 p.ins.length c1) (Ja fk (Ja hbk (Ja ij Uq)));have p2:=Nb V w.heap.size 2 (.slice A2 p.outs.length c2) (Ja fk (Ja hbk (Ja ij Uq)));have p3:=Nb V w.heap.size 3 (.slice A3 p.locals.length c3) (Ja fk (Ja hbk (Ja ij Uq)));have p4:=Nb V w.heap.size 4 (.slice A4 p.eqs.length c4) (Ja fk (Ja hbk (Ja ij Uq)));have HIM:=Nf (him.later fk);clear hV him fk hbk ij bO
 go_upto_region 5 with (go_at_call 14;go_loud (refine(HRI.out n1 n2 n3 n4 _ bK).mono ?_;rintro r wr ⟨⟨ib,rfl,hib⟩,rq⟩;obtain⟨E1,f1,E2,f2,E3,f3⟩:=ib;simp only [imV]))
 refine Jo fun V2 bz=>?_;have gl:=Nd wr V2 (by rw [bz];exact Jc (Jc (Nt) _) _)
 have aq:=Nd V V2 (Jd rq gl);have HY:Hid (ImB V2 wr.heap.size (imC M ⟨E1,f1,E2,f2,E3,f3⟩)):=by rw [bz];exact Nf ((ImB.new _ _ _).later (Jc (Nt) _))
 have e0:=Na V2 (wr.heap.size+1) 0 k1 Uz;have e1:=Na V2 (wr.heap.size+1) 1 k2 Uz;have e2:=Na V2 (wr.heap.size+1) 2 k3 Uz;have HX2:=Nf (HX.out.later aq);replace s0:=Ja aq s0;replace s1:=Ja aq s1;replace s2:=Ja aq s2;have HIM2:=Nf (HIM.out.later aq);have HIB2:=Nf (hib.later gl);have eW:=Jd bK aq;clear bz gl aq rq hib HX HIM p0 p1 p2 p3 p4 bK aC;have x0:=HX2.out 0 _ rfl;have x1:=HX2.out 1 _ rfl;have x2:=HX2.out 2 _ rfl;have x3:=HX2.out 3 _ rfl;have x4:=HX2.out 4 _ rfl;have x5:=HX2.out 5 _ rfl;have x6:=HX2.out 6 _ rfl;have x7:=HX2.out 7 _ rfl;have x8:=HX2.out 8 _ rfl;have x9:=HX2.out 9 _ rfl;have x10:=HX2.out 10 _ rfl;have x11:=HX2.out 11 _ rfl;have x12:=HX2.out 12 _ rfl;have y0:=HY.out 0 _ rfl;have y1:=HY.out 1 _ rfl;have y2:=HY.out 2 _ rfl;have y3:=HY.out 3 _ rfl;have y4:=HY.out 4 _ rfl;have y5:=HY.out 5 _ rfl;have y6:=HY.out 6 _ rfl;have y7:=HY.out 7 _ rfl;have y8:=HY.out 8 _ rfl;have y9:=HY.out 9 _ rfl;have y10:=HY.out 10 _ rfl;have y11:=HY.out 11 _ rfl;have y12:=HY.out 12 _ rfl
 go_wp2_with (first
  | (go_at_call 15;go_loud (refine(HSAME.out ⟨B1,d1,B2,d2,B3,d3⟩ ⟨E1,f1,E2,f2,E3,f3⟩ _ HIM2.out HIB2.out).mono ?_;rintro r ws ⟨rfl,uL⟩;have u0:=Ja uL s0;have u1:=Ja uL s1;have u2:=Ja uL s2;have v0:=Ja uL e0;have v1:=Ja uL e1;have v2:=Ja uL e2))
  | (go_at_call 6;go_loud (refine(xg _ (Jd eW uL)).mono ?_;rintro r wn ⟨rfl,dI⟩)))
 go_ret;exact⟨rfl,Jd (Jd eW uL) dI⟩
end Go.Proofs.YtknfcamdfdfoeaaGreatDoor
