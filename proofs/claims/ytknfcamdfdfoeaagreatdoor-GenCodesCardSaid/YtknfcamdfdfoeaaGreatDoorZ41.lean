/- Lemmas. -/
import Derived.Test.YtknfcamdfdfoeaaGreatDoorMac
import Derived.Test.YtknfcamdfdfoeaaGreatDoorZ07
import Derived.Test.YtknfcamdfdfoeaaGreatDoorZ40
import Derived.Test.YtknfcamdfdfoeaaGreatDoorZ33
import Derived.Test.YtknfcamdfdfoeaaGreatDoorZ28
import Derived.Deep.CutRange
set_option linter.unusedVariables false
set_option linter.unusedSimpArgs false
set_option maxRecDepth 100000
set_option maxHeartbeats 64000000
namespace Go.Proofs.YtknfcamdfdfoeaaGreatDoor
open Go.RowKit Go.Sort
def Jas (p:Pr) (r:Ending):Prop:=∃b,r = .returned (.bool b)/\(b=true->p.ins.length<=60/\p.outs.length<=60/\p.locals.length<=60/\p.eqs.length<=60/\∀q∈p.eqs,q.first.size<=1000000/\q.e.size<=1000000)
theorem Jas.no (p:Pr):Jas p (.returned (.bool false)):=⟨false,rfl,Ul⟩
theorem Jas.yes {p:Pr} (h1:p.ins.length<=60) (h2:p.outs.length<=60) (h3:p.locals.length<=60) (h4:p.eqs.length<=60) (h5:∀q∈p.eqs,q.first.count 300<300/\q.e.count 300<300):Jas p (.returned (.bool true)):=⟨true,rfl,fun _=>⟨h1,h2,h3,h4,fun q hq=>by
 obtain⟨c1,c2⟩:=h5 q hq;have:=Ex.count_size q.first 300 c1;have:=Ex.count_size q.e 300 c2;omega⟩⟩
theorem Js0 (p:Pr) (a:PrA) (w:World) (hp:Kr w p a) :
  Calls Tryz.prog 5 #[prV p a] w fun r w'=>Jas p r/\Below w.heap.size w w':=by
 have bT:=hp.eqs;have ji:=hp.ins.len;have je:=hp.outs.len;have hq3:=hp.locals.len;have hq4:=hp.eqs.len;obtain⟨A1,c1,A2,c2,A3,c3,A4,c4⟩:=a;unfold maxLen at ji je hq3 hq4;unfold prV;dsimp only at *;obtain⟨hq11,hq12⟩:=ji;obtain⟨hq21,hq22⟩:=je;obtain⟨hq31,hq32⟩:=hq3;obtain⟨hq41,hq42⟩:=hq4
 by_cases g1:60<p.ins.length
 ·exact Uc3
 by_cases g2:60<p.outs.length
 ·exact Uc3
 by_cases g3:60<p.locals.length
 ·exact Uc3
 by_cases g4:60<p.eqs.length
 ·exact Uc3
 by_cases g5:2000<p.name.size
 ·exact Uc3
 clear hp
 go_enter Tryz.func5,Tryz.ntmps5
 go_wp2_with fail
 refine Jo fun W0 ag=>?_;have ax:Below w.heap.size w W0:=Uo;have bD:w.heap.size<W0.heap.size:=La;have p4:W0.cell? ⟨w.heap.size,4,none⟩=some (.slice A4 p.eqs.length c4):=Uc;clear ag;replace bT:=bT.later ax
 go_loopw [3,4] (fun m i wr=>∃(k:Nat) (m':Int),k<=p.eqs.length/\i = .int .i64 k/\m = .int .i64 m'/\0<=m'/\m'<=600 * (k:Int)/\Hid (∀y∈p.eqs.take k,y.first.count 300<300/\y.e.count 300<300)/\Below W0.heap.size W0 wr) (fun _ i _=>p.eqs.length-(intOf i).toNat)
 case atStart=>exact⟨0,0,Nat.zero_le _,rfl,rfl,Ua,Ua,Lib.hid (fun y hy=>by simp at hy),Below.refl _ _⟩
 case round=>
  obtain⟨k,m',hk,rfl,rfl,h0,h1,HS,ab⟩:=hrel;have hc:=Jg ab;have bu:=ab.size;have fF:w.heap.size<wr.heap.size:=Ua
  by_cases am:k<p.eqs.length
  ·obtain⟨q,hx,-,hd⟩:=Kl am;obtain⟨b,off,B1,n1,B2,n2,rfl,aH,⟨g0,g1,g2,g3,g4,g5,g6,g7,g8,g9,s1,s2⟩⟩:=(bT.later ab).get hx;have ak:=Ex.count_bd q.first 300;have dm:=Ex.count_bd q.e 300;have ii:=fun W h=>Jf2 q.first B1 n1 300 W (s1.later h) Ua Ua;have gL:=fun W h=>Jf2 q.e B2 n2 300 W (s2.later h) Ua Ua;unfold exV at ii gL
   have HK:=Lib.hid (show q.first.count 300<300->q.e.count 300<300->∀y∈p.eqs.take (k+1),y.first.count 300<300/\y.e.count 300<300 from fun g1 g2 y hy=>by
    rw [List.take_add_one,hx] at hy;simp only [Option.toList,List.mem_append,List.mem_singleton] at hy
    rcases hy with hy|rfl
    ·exact HS.out y hy
    ·exact⟨g1,g2⟩)
   clear hd hx;generalize q.first.count 300=x1 at *;generalize q.e.count 300=x2 at *
   by_cases t1:3000<m'+x2+x1
   ·exact Bu
   by_cases t2:x2>=300
   ·exact Bu
   by_cases t3:x1>=300
   ·exact Bu
   go_wp2_with fail
   refine Jx Ug Ug (fun bj=>?_)
   repeat (quiet_step ((first|(go_at_call_of 16 B1;exact Calls.regrown_of (ii _ Jb))|(go_at_call_of 16 B2;exact Calls.regrown_of (gL _ Jb)))))
   refine wpQuiet_nil ?_;intro wq au;replace au:=qbo au;obtain⟨au,dA,bh⟩:=au;clear bj
   (try simp at bh)
   have wB:w.heap.size<wq.heap.size:=Ua;have uN:b<wq.heap.size:=Ua
   go_wp2_with (first|(go_at_call_of 16 B1;refine(ii _ Jb).mono ?_;rintro r wa ⟨rfl,aA⟩;have aW:=Jg aA;have cN:=aA.size;have dG:w.heap.size<wa.heap.size:=Ua)|(go_at_call_of 16 B2;refine(gL _ Jb).mono ?_;rintro r wb ⟨rfl,aH⟩;have el:=Jg aH;have dH:=aH.size;have cA:w.heap.size<wb.heap.size:=Ua))
   go_roundw
   case rel=>exact⟨k+1,m'+x2+x1,Ua,Up,Up,Ua,Ua,Lib.hid (HK.out Ua Ua),Jb⟩
   case measure=>simp [intOf];omega
  obtain rfl:k=p.eqs.length:=Ua
  go_wp2_with fail
  go_ret;exact⟨Jas.yes Ua Ua Ua Ua (by have:=HS.out;rwa [List.take_length] at this),Jb⟩
theorem J3.of_own' {w:World} {base:Nat} {e:TypeId} {l:List (Int×Int)} {A:Option Addr} {cap:Nat} (h:w.ownsRow base e 2 (.slice A l.length cap) l.length (cdC l)):J3 w l A cap:=by
 obtain⟨A',cap',hv,aY⟩:=J3.of_own h;injection hv with e1 e2 e3;subst e1 e3;exact aY
theorem Joy (p:Pr) (a:PrA) (w:World) (hg:Ql w) (hp:Kr w p a) (aw:Q4 p) :
  Calls Tryz.prog 3 #[prV p a] w fun r w'=>r = .returned (.bool true)/\Below w.heap.size w w':=by
 have pT:=fun W h=>Js0 p a W (hp.later h);have sQ:=Lib.hid (fun(n1:p.ins.length<=1000000) (n2:p.outs.length<=1000000) (n3:p.locals.length<=1000000) (n4:p.eqs.length<=1000000) (n5:∀q∈p.eqs,q.first.size<=1000000/\q.e.size<=1000000) W (h:Below w.heap.size w W)=>Jxb p a W (hp.later h) n1 n2 n3 n4 n5);have hZ:=Lib.hid (fun(n1:p.ins.length<=1000000) (n2:p.outs.length<=1000000) (n3:p.locals.length<=1000000) (n4:p.eqs.length<=1000000) W (h:Below w.heap.size w W)=>Jt8 p a W (hp.later h) aw n1 n2 n3 n4);have jY:=Lib.hid (fun(a':PrA) (wt:World) (nP:Below w.heap.size w wt) (jk:Kr wt p a') (n1:p.ins.length<=1000000) (n2:p.outs.length<=1000000) (n3:p.locals.length<=1000000) (n4:p.eqs.length<=1000000) W (h:Below wt.heap.size wt W)=>Jv8 p a' W ((hg.later nP).later h) (jk.later h) aw n1 n2 n3 n4);have zr:=Lib.hid (fun(a':PrA) (wt:World) (nP:Below w.heap.size w wt) (jk:Kr wt p a') W (h:Below wt.heap.size wt W)=>Jvp p a' a W (jk.later h) ((hp.later nP).later h));have xg:=fun W h=>Jqw W (hg.later h);have fM:Tryz.prog.eqGuardType Tryz.prog.depth 34=false:=Ug;have hgm3:Tryz.prog.eqGuardType Tryz.prog.depth 31=false:=Ug;clear hg hp aw;obtain⟨A1,c1,A2,c2,A3,c3,A4,c4⟩:=a;unfold Jc6 at hZ jY;unfold prV fV frT at *;dsimp only at *;generalize Xg p=O at *;obtain⟨l,⟨r1,r2,r3,r4,r5⟩,f1,f2,f3⟩:=O;dsimp only at *;have dp:=fun w=>Jd6 f1 f2 f3 w;have uf:=fun w=>Jra r1 r2 r3 r4 r5 w;have zs:=fun A cap B capB W h1 h2=>Jqh l A cap B capB W h1 h2
 go_enter Tryz.func3,Tryz.ntmps3
 go_upto_region 4 with (first
  | (go_at_call 5;go_loud (refine(pT _ Jb).mono ?_;rintro r wl ⟨⟨bl,rfl,wU⟩,ij⟩;have bO:=Jg ij;have su:=ij.size;(try simp at su);have hyl:w.heap.size<wl.heap.size:=Ua;cases bl))
  | (go_at_call 7;go_loud (have n1:p.ins.length<=1000000:=Uea;have n2:p.outs.length<=1000000:=Uea;have n3:p.locals.length<=1000000:=Uea;have n4:p.eqs.length<=1000000:=Uea;refine(sQ.out n1 n2 n3 n4 (wU Th).2.2.2.2 _ Jb).mono ?_;rintro r wt ⟨⟨⟨B1,k1,B2,k2,B3,k3,B4,k4⟩,rfl,jk⟩,nP⟩;have hct:=Jg nP;have hzt:=nP.size;have hyt:w.heap.size<wt.heap.size:=Ua;have aC:Below w.heap.size w wt:=Jb;have HCO:=Lib.hid (jY.out _ wt aC jk n1 n2 n3 n4);have zt:=Lib.hid (zr.out _ wt aC jk);have lv:=Lib.hid (hZ.out n1 n2 n3 n4);clear jY zr hZ sQ pT))
  | (go_at_call 6;go_loud (refine(xg _ Jb).mono ?_;rintro r wn ⟨rfl,dI⟩)))
 ·go_ret;exact⟨rfl,Jb⟩
 refine Jo fun V hV=>?_;have rF:Below wt.heap.size wt V:=by rw [hV];exact Jb
 have cX:Below w.heap.size w V:=Jn aC rF Ua;have mQ:wt.heap.size<V.heap.size:=Sc;have o0:V.cell? ⟨wt.heap.size,0,none⟩=some (.string p.name):=U3;have o1:V.cell? ⟨wt.heap.size,1,none⟩=some (.slice B1 p.ins.length k1):=U3;have o2:V.cell? ⟨wt.heap.size,2,none⟩=some (.slice B2 p.outs.length k2):=U3;have o3:V.cell? ⟨wt.heap.size,3,none⟩=some (.slice B3 p.locals.length k3):=U3;have o4:V.cell? ⟨wt.heap.size,4,none⟩=some (.slice B4 p.eqs.length k4):=U3;have q0:V.cell? ⟨w.heap.size,0,none⟩=some (.string p.name):=U3;have q1:V.cell? ⟨w.heap.size,1,none⟩=some (.slice A1 p.ins.length c1):=U3;have q2:V.cell? ⟨w.heap.size,2,none⟩=some (.slice A2 p.outs.length c2):=U3;have q3:V.cell? ⟨w.heap.size,3,none⟩=some (.slice A3 p.locals.length c3):=U3;have q4:V.cell? ⟨w.heap.size,4,none⟩=some (.slice A4 p.eqs.length c4):=U3;generalize wt.heap.size=X at *;have kM:X<V.heap.size:=mQ;have hwV:w.heap.size<V.heap.size:=Ua;clear hV hct bO ij nP wU jk
 go_upto_region 6 with (first
  | (go_at_call 8;go_loud (refine(HCO.out _ rF).mono ?_;rintro r wo ⟨⟨vo,rfl,wI⟩,cW⟩;have ak:=Jg cW;have af:=cW.size;have bV:w.heap.size<wo.heap.size:=Ua;have gq:X<wo.heap.size:=Ua))
  | (go_at_call 9;go_loud (refine(lv.out _ Jb).mono ?_;rintro r wq ⟨⟨vq,rfl,hrq⟩,xE⟩;have dm:=Jg xE;have br:wo.heap.size+2<=wq.heap.size:=(by have:=xE.size;simpa using this);have ow:w.heap.size<wq.heap.size:=Ua;have ns:X<wq.heap.size:=Ua;have nt:wo.heap.size<wq.heap.size:=Ua;have lH:wo.heap.size+1<wq.heap.size:=Ua)))
 refine Jo fun V2 bz=>?_;have uH:Below wo.heap.size wo V2:=Sk;have tG:Below wq.heap.size wq V2:=Sk;have aq:Below V.heap.size V V2:=Jn cW uH af;have a0:V2.cell? ⟨wo.heap.size,0,none⟩=some (.int .i64 r1):=Uz;have a1:V2.cell? ⟨wo.heap.size,1,none⟩=some (.int .i64 r2):=Uz;have a2:V2.cell? ⟨wo.heap.size,2,none⟩=some (.int .i64 r3):=Uz;have a3:V2.cell? ⟨wo.heap.size,3,none⟩=some (.int .i64 r4):=Uz;have a4:V2.cell? ⟨wo.heap.size,4,none⟩=some (.int .i64 r5):=Uz;have b0:V2.cell? ⟨wo.heap.size+1,0,none⟩=some (.int .i64 f1):=Uz;have b1:V2.cell? ⟨wo.heap.size+1,1,none⟩=some (.int .i64 f2):=Uz;have b2:V2.cell? ⟨wo.heap.size+1,2,none⟩=some (.int .i64 f3):=Uz;have x0:V2.cell? ⟨wq.heap.size,0,none⟩=some (.int .i64 r1):=Uz;have x1:V2.cell? ⟨wq.heap.size,1,none⟩=some (.int .i64 r2):=Uz;have x2:V2.cell? ⟨wq.heap.size,2,none⟩=some (.int .i64 r3):=Uz;have x3:V2.cell? ⟨wq.heap.size,3,none⟩=some (.int .i64 r4):=Uz;have x4:V2.cell? ⟨wq.heap.size,4,none⟩=some (.int .i64 r5):=Uz;have y0:V2.cell? ⟨wq.heap.size+1,0,none⟩=some (.int .i64 f1):=Uz;have y1:V2.cell? ⟨wq.heap.size+1,1,none⟩=some (.int .i64 f2):=Uz;have y2:V2.cell? ⟨wq.heap.size+1,2,none⟩=some (.int .i64 f3):=Uz;have uI:=Jy wI uH;have uJ:=K8 (Jy hrq tG) (B':=wo.heap.size) Uj;have uK:∀b,vo.ownBlock=some b->V.heap.size<=b/\b<wo.heap.size:=fun b hb=>wI.lt b hb;obtain⟨Ao,co,rfl,lr⟩:=J3.of_own uI;obtain⟨Aq,cq,rfl,zq⟩:=J3.of_own uJ;have hwb1:w.heap.size<V2.heap.size:=by have:=aq.size;omega
 have zu:X<V2.heap.size:=by have:=aq.size;omega
 have hwb3:wo.heap.size<V2.heap.size:=block_lt_of_cell a0;have hwb4:wo.heap.size+1<V2.heap.size:=block_lt_of_cell b0;have hwb5:wq.heap.size<V2.heap.size:=block_lt_of_cell x0;have hwb6:wq.heap.size+1<V2.heap.size:=block_lt_of_cell y0;replace o0:=Ja aq o0;replace o1:=Ja aq o1;replace o2:=Ja aq o2;replace o3:=Ja aq o3;replace o4:=Ja aq o4;replace q0:=Ja aq q0;replace q1:=Ja aq q1;replace q2:=Ja aq q2;replace q3:=Ja aq q3;replace q4:=Ja aq q4;have wV:=Lib.hid uI;have zv:=Lib.hid uJ;clear bz ak dm uH tG cW xE wI hrq uI uJ af br bV gq ow ns nt lH;have zw:Below X wt V2:=rF.trans (aq.mono (Nat.le_of_lt kM))
 go_upto_region 7 with (first
  | (go_at_call 10;go_loud (refine(zs _ _ _ _ _ lr zq).mono ?_;rintro r wi ⟨rfl,pU⟩;have hci:=Jg pU;have hzi:=pU.size;have hyi1:w.heap.size<wi.heap.size:=Ua;have hyi2:X<wi.heap.size:=Ua;have hyi3:wo.heap.size<wi.heap.size:=Ua;have hyi4:wo.heap.size+1<wi.heap.size:=Ua;have hyi5:wq.heap.size<wi.heap.size:=Ua;have hyi6:wq.heap.size+1<wi.heap.size:=Ua))
  | (go_at_call 11;go_loud (refine(zt.out _ (zw.trans (pU.mono (Nat.le_of_lt zu)))).mono ?_;rintro r ws ⟨rfl,uL⟩;have gH:=uL.size)))
 refine Jo fun V3 dl=>?_;have ki:Below V2.heap.size V2 V3:=by rw [dl];exact Jn pU uL hzi
 have aM:Below V.heap.size V V3:=Jn aq ki aq.size;replace o0:=Ja ki o0;replace o1:=Ja ki o1;replace o2:=Ja ki o2;replace o3:=Ja ki o3;replace o4:=Ja ki o4;have zy:=Jy wV.out ki;have zz:=Jy zv.out ki;have hrqb:=fun b hb=>(zv.out.lt b hb).1;clear dl hci pU uL hzi gH hyi1 hyi2 hyi3 hyi4 hyi5 hyi6 a0 a1 a2 a3 a4 b0 b1 b2 x0 x1 x2 x3 x4 y0 y1 y2 q0 q1 q2 q3 q4 lr zq wV zv hwb1 zu hwb3 hwb4 hwb5 hwb6 zt lv;have fe:=aM.size
 go_upto_region 8 with (first|(go_at_call 12;go_loud (refine(Jub V.heap.size _ l V3 zy).mono ?_;rintro r wx ⟨rfl,gK⟩)))
 refine Jo fun V4 eE=>?_;have bB:V3.grownBy V4 (Value.slice Ao l.length co).ownBlock:=by rw [eE];exact gK
 have nR:some X≠(Value.slice Ao l.length co).ownBlock:=fun he=>by have:=(uK X he.symm).1;omega
 have wW:X<V3.heap.size:=Ua;replace o0:V4.cell? ⟨X,0,none⟩=some (.string p.name):=Jr (bB.block X wW nR) o0;replace o1:V4.cell? ⟨X,1,none⟩=some (.slice B1 p.ins.length k1):=Jr (bB.block X wW nR) o1;replace o2:V4.cell? ⟨X,2,none⟩=some (.slice B2 p.outs.length k2):=Jr (bB.block X wW nR) o2;replace o3:V4.cell? ⟨X,3,none⟩=some (.slice B3 p.locals.length k3):=Jr (bB.block X wW nR) o3;replace o4:V4.cell? ⟨X,4,none⟩=some (.slice B4 p.eqs.length k4):=Jr (bB.block X wW nR) o4;have ei:Below V.heap.size V V4:=J2 aM bB (fun b hb=>(uK b hb).1) fe;have zA:=X5 zz bB (fun b hb he=>by have:=(uK b hb).2;have:=hrqb b he;omega);have zv:=Lib.hid zA;have qS:=ei.size;have hbX4:Below X wt V4:=rF.trans (ei.mono (Nat.le_of_lt kM));have hbw4:Below w.heap.size w V4:=Jn cX ei Ua;clear eE gK bB aM ki zy zz zA wW nR aq zw;have hX4:X<V4.heap.size:=Ua
 go_wp2_with (first
  | (go_at_call 8;go_loud (refine(HCO.out _ hbX4).mono ?_;rintro r wy ⟨⟨vy,rfl,hry⟩,gl⟩;obtain⟨Ay,cy,rfl,hiy⟩:=J3.of_own hry;have zq:=(J3.of_own' (Jy zv.out gl));have hzy:=gl.size))
  | (go_at_call 10;go_loud (refine(zs _ _ _ _ _ (hiy.later Jb) (zq.later Jb)).mono ?_;rintro r wz ⟨rfl,gt⟩))
  | (go_at_call 6;go_loud (refine(xg _ Jb).mono ?_;rintro r wn ⟨rfl,dI⟩)))
 go_ret;exact⟨rfl,Jb⟩
end Go.Proofs.YtknfcamdfdfoeaaGreatDoor
