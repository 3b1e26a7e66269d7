/- Lemmas. -/
import Derived.Test.YtdgjplldlfeolaaGreatDoorMac
import Derived.Test.YtdgjplldlfeolaaGreatDoorY26
set_option linter.unusedVariables false
set_option linter.unusedSimpArgs false
set_option maxRecDepth 100000
set_option maxHeartbeats 64000000
namespace Go.Proofs.YtdgjplldlfeolaaGreatDoor
open Go.RowKit Go.Sort Go.Maps Go.ChangeMaps Go.WideMaps
structure Jfw (W:World) (X Bs Bt Bf:Nat) (L:List Va) (cs:List Ce) (A:Option Addr) (cap:Nat):Prop where
 c0:W.cell? ⟨X,0,none⟩=some (.map (some Bs))
 c1:W.cell? ⟨X,1,none⟩=some (.map (some Bt))
 c2:W.cell? ⟨X,2,none⟩=some (.map (some Bf))
 c3:W.cell? ⟨X,3,none⟩=some (.slice A cs.length cap)
 slots:Qd Tryz.prog 9 (plainElem Tryz.prog 21) okS klS okI (Lit.int .i32) 0 W Bs L.length (Jft L) L.length
 clks:Qd Tryz.prog 9 clkR okS klS okC klC (0,⟨#[]⟩) W Bt L.length (Jcq L) L.length
 flags:∃c,Qd Tryz.prog 81 (plainElem Tryz.prog 21) okC klC okI (Lit.int .i32) 0 W Bf cs.length (Jeg cs) c
theorem Jmo {Q:Exit->Act->World->Prop} {e:Exit} {a:Act} {W:World} (h:∀W0,W0=W->Q e a W0):Q e a W:=h W rfl
theorem Jya (w:World):(zeroValue 81).run Tryz.prog w = .ok (kvC (0,⟨#[]⟩)) w:=Ue
theorem Jxs (p:Pr) (a:PrA) (cs:List Ce) (A:Option Addr) (cap:Nat) (w:World) (hp:Kr w p a) (dj:Jbh w cs A cap) (n1:p.ins.length<=1000000) (n2:p.outs.length<=1000000) (n3:p.locals.length<=1000000) (n4:cs.length<=1000000)
  (hs:∀v∈Je p,okS v.name/\okC (v.ck,v.cn)) (hn:((Je p).map (·.name)).Nodup) (bO:∀c∈cs,okC (c.ck,c.cn)) :
  Calls Tryz.prog 101 #[prV p a,.slice A cs.length cap] w fun r w'=>(∃X Bs Bt Bf,r = .returned (.pointer (some ⟨X,0,none⟩))/\Jfw w' X Bs Bt Bf (Je p) cs A cap)/\Below w.heap.size w w':=by
 have aJ:=fun W h=>Jcv p a W (hp.later h) n1 n2 n3;have hL3:(Je p).length<=3000000:=Su;obtain⟨A1,c1,A2,c2,A3,c3,A4,c4⟩:=a;obtain⟨hcs1,hcs2,_⟩:=id dj;unfold maxLen at hcs2;unfold prV at *;dsimp only at *;have gI:=@run_makeMap Tryz.prog;generalize hL:Je p=L at *;clear hL;have HS:=Nf hs;clear hs;have HN:=Nf hn;clear hn;have mK:=Nf bO;clear bO;have lo:=Nf dj;clear dj hp
 go_enter Tryz.func101,Tryz.ntmps101
 go_wp2_with (first|(go_at_call 118;go_loud (refine(aJ _ Jb).mono ?_;rintro r wb ⟨⟨Av,cv,rfl,ae⟩,aH⟩;have el:=Jg aH;have dH:=aH.size;(try simp at dH);have cR:=Ju.of_own ae)))
 refine Jo fun W0 ag=>?_;have ax:=Nd w W0 Uz;have bD:w.heap.size+5<=W0.heap.size:=by rw [ag];exact dH
 have p0:=Nb W0 (w.heap.size+4) 0 (.map (some (w.heap.size+1))) Uf;have p1:=Nb W0 (w.heap.size+4) 1 (.map (some (w.heap.size+2))) Uf;have p2:=Nb W0 (w.heap.size+4) 2 (.map (some (w.heap.size+3))) Uf;have p3:=Nb W0 (w.heap.size+4) 3 (.slice A cs.length cap) Uf;have bE:Off (w.heap.size+5) none W0 (fun W=>Ju W L Av cv):=by rw [ag];have:=Ju.off_own' ae;simpa using this
 have xH:Qd Tryz.prog 9 (plainElem Tryz.prog 21) okS klS okI (Lit.int .i32) 0 W0 (w.heap.size+1) 0 (fun _=>none) 0:=by
  rw [ag];refine Qd.bel ?_ aH;have h1:=Qd.made (P:=Tryz.prog) (k:=9) (R:=plainElem Tryz.prog 21) (ok:=okS) (kl:=klS) (okv:=okI) (vl:=Lit.int .i32) (z:=(0:Int)) (Jly Vx) (w.alloc (.cells #[.string p.name,.slice A1 p.ins.length c1,.slice A2 p.outs.length c2,.slice A3 p.locals.length c3,.slice A4 p.eqs.length c4] 38));have h2:=h1.bel (Jc (Jc (Jc (Nt) (.map #[] 0)) (.map #[] 0)) (.cells #[.map (some (w.heap.size+1)),.map (some (w.heap.size+1+1)),.map (some (w.heap.size+1+1+1)),.slice A cs.length cap] 208));exact Lw
 have wC:Qd Tryz.prog 9 clkR okS klS okC klC (0,⟨#[]⟩) W0 (w.heap.size+2) 0 (fun _=>none) 0:=by
  rw [ag];refine Qd.bel ?_ aH;have h1:=Qd.made (P:=Tryz.prog) (k:=9) (R:=clkR) (ok:=okS) (kl:=klS) (okv:=okC) (vl:=klC) (z:=((0:Int),(⟨#[]⟩:ByteArray))) ⟨Vy,Ug⟩ ((w.alloc (.cells #[.string p.name,.slice A1 p.ins.length c1,.slice A2 p.outs.length c2,.slice A3 p.locals.length c3,.slice A4 p.eqs.length c4] 38)).alloc (.map #[] 0));have h2:=h1.bel (Jc (Jc (Nt) (.map #[] 0)) (.cells #[.map (some (w.heap.size+1)),.map (some (w.heap.size+1+1)),.map (some (w.heap.size+1+1+1)),.slice A cs.length cap] 208));exact Lw
 have gZ:Qd Tryz.prog 81 (plainElem Tryz.prog 21) okC klC okI (Lit.int .i32) 0 W0 (w.heap.size+3) 0 (fun _=>none) 0:=by
  rw [ag];refine Qd.bel ?_ aH;have h1:=Qd.made (P:=Tryz.prog) (k:=81) (R:=plainElem Tryz.prog 21) (ok:=okC) (kl:=klC) (okv:=okI) (vl:=Lit.int .i32) (z:=(0:Int)) (Jly Vx) (((w.alloc (.cells #[.string p.name,.slice A1 p.ins.length c1,.slice A2 p.outs.length c2,.slice A3 p.locals.length c3,.slice A4 p.eqs.length c4] 38)).alloc (.map #[] 0)).alloc (.map #[] 0));have h2:=h1.bel (Jc (Nt) (.cells #[.map (some (w.heap.size+1)),.map (some (w.heap.size+1+1)),.map (some (w.heap.size+1+1+1)),.slice A cs.length cap] 208));exact Lw
 have rl:=lo.out.later ax;have cY:=bE.here.len;unfold maxLen at cY;obtain⟨fH,fI⟩:=cY;clear ag ae cR el aH dH aJ gI;have HF0:=Nf gZ;have HC0:=Nf rl;clear gZ rl
 go_loopw [19] (fun i wr=>∃k:Nat,k<=L.length/\i = .int .i64 k/\Hid (Qd Tryz.prog 9 (plainElem Tryz.prog 21) okS klS okI (Lit.int .i32) 0 wr (w.heap.size+1) k (Jft (L.take k)) k)/\
   Hid (Qd Tryz.prog 9 clkR okS klS okC klC (0,⟨#[]⟩) wr (w.heap.size+2) k (Jcq (L.take k)) k)/\Hid (Chg (w.heap.size+1) (w.heap.size+2) none W0 wr)) (fun i _=>L.length-(intOf i).toNat)
 case atStart=>exact⟨0,Np,rfl,Nf xH,Nf wC,Nf (Chg.bel (Nt))⟩
 case round=>
  obtain⟨k,hk,rfl,tJ,lJ,fJ⟩:=hrel;have iG:=fJ.out.size;have q0:=Nb wr (w.heap.size+4) 0 (.map (some (w.heap.size+1))) (Jr (fJ.out.block (w.heap.size+4) Ua Ua Ua Uh) p0);have q1:=Nb wr (w.heap.size+4) 1 (.map (some (w.heap.size+2))) (Jr (fJ.out.block (w.heap.size+4) Ua Ua Ua Uh) p1)
  by_cases am:k<L.length
  ·have hx:L[k]?=some L[k]:=Ng am;have aj:L[k]∈L:=Nj am;have aP:L.take (k+1)=L.take k ++ [L[k]]:=U7;generalize L[k]=x at hx aj aP;have jg:Ju wr L Av cv:=bE wr fun b h1 h2 _=>fJ.out.block b h2 Ua Ua Uh;obtain⟨b,off,rfl,aH,⟨d0,d1,d2,d3⟩⟩:=jg.get hx;have dT:=HS.out x aj;have HNW:=Nf (Jid HN.out hx);have eZ:=Nf aP;have xI:IntKind.i32.wrap (k:Int)=(k:Int):=Jbn Vx;clear hx aj aP jg p0 p1 p2 p3 xH wC
   go_wp2_with fail
   refine Jo fun W1 bt=>?_;have ac:=Nd wr W1 Fz;have af:wr.heap.size+1=W1.heap.size:=Dr;have x0:=Nb W1 wr.heap.size 0 (.string x.name) Ve;have x2:=Na W1 wr.heap.size 2 x.ck Ve;have x3:=Nb W1 wr.heap.size 3 (.string x.cn) Ve;have c0:=Ja ac q0;have c1:=Ja ac q1;have cT:=ltA w 1 W1;have cF:=ltA w 2 W1;obtain⟨v0,st,o0,o1,o2,h0,ro,lK,lp,iy⟩:=Qd.steps (Jc2 Tryz.underlying9) (string_law Tryz.underlying9) (Jvi Tryz.underlying21) Tryz.underlying204 (fun u=>Jbp u) (tJ.out.bel ac) dT.1 Ua (v:=(k:Int)) (Jly Vx);obtain⟨v1,st1,u0,u1,u2,g0,gme,ges,gup,gfs⟩:=Qd.steps (Jc2 Tryz.underlying9) (string_law Tryz.underlying9) Jgn Tryz.underlying205 (fun u=>Jya u) (lJ.out.bel ac) dT.1 Ua (v:=(x.ck,x.cn)) dT.2;unfold kvC at ges;dsimp only at lK ges;have a1:=ro W1.drew h0;have b1:=gme W1.drew g0;have a2:=ro (setBlock W1.drew (w.heap.size+2) u1) ((Qa _ _ _ _ Ua).trans h0);have b2:=gme (setBlock W1.drew (w.heap.size+1) o1) ((Qa _ _ _ _ Ua).trans g0);have kA1:(setBlock (setBlock W1.drew (w.heap.size+1) o1) (w.heap.size+2) u1).heap[w.heap.size+1]?=some o1:=(Qa _ _ _ _ Ua).trans (Xc _ _ _ cT);have kA2:(setBlock (setBlock W1.drew (w.heap.size+1) o1) (w.heap.size+2) u1).heap[w.heap.size+2]?=some u1:=Xc _ _ _ (by rw [Yo];exact cF);have kB2:(setBlock (setBlock W1.drew (w.heap.size+2) u1) (w.heap.size+1) o1).heap[w.heap.size+2]?=some u1:=(Qa _ _ _ _ Ua).trans (Xc _ _ _ cF);have kB1:(setBlock (setBlock W1.drew (w.heap.size+2) u1) (w.heap.size+1) o1).heap[w.heap.size+1]?=some o1:=Xc _ _ _ (by rw [Yo];exact cT);have s1:=lK _ kA1;have s2:=ges _ kA2;have s3:=lK _ kB1;have s4:=ges _ kB2;have s5:=lK (setBlock (setBlock (setBlock W1.drew (w.heap.size+1) o1) (w.heap.size+2) u1) (w.heap.size+2) u2) ((Qa _ _ _ _ Ua).trans kA1);have s6:=ges (setBlock (setBlock (setBlock W1.drew (w.heap.size+1) o1) (w.heap.size+2) u1) (w.heap.size+1) o2) ((Qa _ _ _ _ Ua).trans kA2);have s7:=lK (setBlock (setBlock (setBlock W1.drew (w.heap.size+2) u1) (w.heap.size+1) o1) (w.heap.size+2) u2) ((Qa _ _ _ _ Ua).trans kB1);have s8:=ges (setBlock (setBlock (setBlock W1.drew (w.heap.size+2) u1) (w.heap.size+1) o1) (w.heap.size+1) o2) ((Qa _ _ _ _ Ua).trans kB2);have m1:(setBlock W1.drew (w.heap.size+1) o1).heap[w.heap.size+1]?=some o1:=Xc _ _ _ cT;have m2:(setBlock W1.drew (w.heap.size+2) u1).heap[w.heap.size+2]?=some u1:=Xc _ _ _ cF;have s9:=lK _ m1;have s10:=ges _ m2;have m3:(setBlock (setBlock W1.drew (w.heap.size+1) o1) (w.heap.size+1) o2).heap[w.heap.size+2]?=some u0:=(Qa _ _ _ _ Ua).trans ((Qa _ _ _ _ Ua).trans g0);have m4:(setBlock (setBlock W1.drew (w.heap.size+2) u1) (w.heap.size+2) u2).heap[w.heap.size+1]?=some o0:=(Qa _ _ _ _ Ua).trans ((Qa _ _ _ _ Ua).trans h0);have s11:=gme _ m3;have s12:=ro _ m4;have s13:=ges (setBlock (setBlock (setBlock W1.drew (w.heap.size+1) o1) (w.heap.size+1) o2) (w.heap.size+2) u1) (Xc _ _ _ (by rw [Yo,Yo];exact cF));have s14:=lK (setBlock (setBlock (setBlock W1.drew (w.heap.size+2) u1) (w.heap.size+2) u2) (w.heap.size+1) o1) (Xc _ _ _ (by rw [Yo,Yo];exact cT))
   have tK:=Nf (fun(w':World) (hw:∀b o,b≠w.heap.size+1->b≠w.heap.size+2->w'.cell? ⟨b,o,none⟩=W1.cell? ⟨b,o,none⟩)=>
    (⟨(hw _ _ Ua Ua).trans c0,(hw _ _ Ua Ua).trans c1,(hw _ _ Ua Ua).trans x0,(hw _ _ Ua Ua).trans x2,(hw _ _ Ua Ua).trans x3⟩ :
     w'.cell? ⟨w.heap.size+4,0,none⟩=some (.map (some (w.heap.size+1)))/\w'.cell? ⟨w.heap.size+4,1,none⟩=some (.map (some (w.heap.size+2)))/\w'.cell? ⟨wr.heap.size,0,none⟩=some (.string x.name)/\w'.cell? ⟨wr.heap.size,2,none⟩=some (.int .i64 x.ck)/\w'.cell? ⟨wr.heap.size,3,none⟩=some (.string x.cn)))
   have mL:=Nf iy;have GFS:=Nf gfs;clear ro lK gme ges lp gup h0 g0 m1 m2 m3 m4 kA1 kA2 kB1 kB2 iy gfs bt q0 q1 d0 d1 d2 d3
   go_region_held3 (fun w'=>w'.cell? ⟨w.heap.size+4,0,none⟩=some (.map (some (w.heap.size+1)))/\w'.cell? ⟨w.heap.size+4,1,none⟩=some (.map (some (w.heap.size+2)))/\w'.cell? ⟨wr.heap.size,0,none⟩=some (.string x.name)/\w'.cell? ⟨wr.heap.size,2,none⟩=some (.int .i64 x.ck)/\w'.cell? ⟨wr.heap.size,3,none⟩=some (.string x.cn))
    (exact tK.out _ (fun b o n1 n2=>by(repeat (first|rw [Jd9 _ _ _ _ _ n1]|rw [Jd9 _ _ _ _ _ n2]));first|done|rfl)) (fail)
   all_goals
    refine Jmo fun W2 gi=>?_
    have k1:W2.heap[w.heap.size+1]?=some o2:=by
     rw [gi]
     repeat (first|exact Xc _ _ _ (by simp only [Yo];exact cT)|refine(Qa _ _ _ _ Ua).trans ?_)
    have k2:W2.heap[w.heap.size+2]?=some u2:=by
     rw [gi]
     repeat (first|exact Xc _ _ _ (by simp only [Yo];exact cF)|refine(Qa _ _ _ _ Ua).trans ?_)
    have dm:Chg (w.heap.size+1) (w.heap.size+2) none W1 W2:=by
     rw [gi];refine⟨rfl,rfl,rfl,?_,fun j hj n1 n2 _=>?_⟩
     ·simp only [Yo];exact Ns _
     ·repeat (refine(Qa _ _ _ _ (by assumption)).trans ?_)
      exact Gp
    have br:=dm.size;have sr:=Jtm x.name (L.take k) HNW.out;have iH:=Jlc x.name (L.take k) HNW.out;have r1:=mL.out W2 k1 (Jft (L.take (k+1))) (by rw [eZ.out,Jeh,if_pos rfl,List.length_take];congr 2;omega) (fun y _ hy=>by rw [eZ.out,Jeh,if_neg (fun he=>hy (by ext1;exact he))]);have r2:=GFS.out W2 k2 (Jcq (L.take (k+1))) (by rw [eZ.out,Jce,if_pos rfl]) (fun y _ hy=>G5);rw [sr] at r1;rw [iH] at r2;have R1:=Nf r1;have R2:=Nf r2;have R3:=Nf ((fJ.out.trans (Chg.bel ac) (.inl rfl)).trans dm (.inl rfl));clear gi k1 k2 dm sr iH r1 r2 a1 a2 b1 b2 s1 s2 s3 s4 s5 s6 s7 s8 s9 s10 s11 s12 s13 s14
    go_wp2_with fail
    go_roundw
    case rel=>exact⟨k+1,Ua,Uw,R1,R2,R3⟩
    case measure=>simp [intOf];omega
  ·obtain rfl:k=L.length:=Ua;obtain⟨Wa,rfl⟩:∃Wa,Wa=wr:=⟨wr,rfl⟩;have bC:=tJ.out;have gJ:=lJ.out;rw [List.take_length] at bC gJ;have tK:=Nf bC;have HT1:=Nf gJ;have HF1:=Nf (HF0.out.keep1 (fJ.out.block (w.heap.size+3) Ua Ua Ua Uh));have q2:=Nb Wa (w.heap.size+4) 2 (.map (some (w.heap.size+3))) (Jr (fJ.out.block (w.heap.size+4) Ua Ua Ua Uh) p2);have q3:=Nb Wa (w.heap.size+4) 3 (.slice A cs.length cap) (Jr (fJ.out.block (w.heap.size+4) Ua Ua Ua Uh) p3);have aC:=Nd w Wa (Jd2 (base:=0) ax fJ.out Ua Ua Uh);clear bC gJ xH wC p0 p1 p2 p3 bE tJ lJ
   go_wp2_with fail
   go_loopw [47] (fun i wr=>∃(k c:Nat),k<=cs.length/\i = .int .i64 k/\Hid (Qd Tryz.prog 81 (plainElem Tryz.prog 21) okC klC okI (Lit.int .i32) 0 wr (w.heap.size+3) k (Jeg (cs.take k)) c)/\Hid (Wa.grownBy wr (some (w.heap.size+3)))) (fun i _=>cs.length-(intOf i).toNat)
   case atStart=>exact⟨0,0,Np,rfl,HF1,Nf ⟨rfl,rfl,rfl,Ns _,fun _ _ _=>rfl⟩⟩
   case round=>
    obtain⟨k,c,dz,rfl,rp,bB⟩:=hrel;have kI:=bB.out.size;have rq:=Nd w wr (Kou aC bB.out (fun b hb=>Uv) Ua);have z2:=Nb wr (w.heap.size+4) 2 (.map (some (w.heap.size+3))) (Jr (bB.out.block (w.heap.size+4) Ua U2) q2)
    by_cases dO:k<cs.length
    ·have hx:cs[k]?=some cs[k]:=Ng dO;have aj:cs[k]∈cs:=Nj dO;have aP:cs.take (k+1)=cs.take k ++ [cs[k]]:=by rw [List.take_succ_eq_append_getElem dO]
     generalize cs[k]=x at hx aj aP;obtain⟨b,off,rfl,cB⟩:=(lo.out.later rq).2.2.2 Ua;have aY:=Jdh cs k x hx;have d0:=Nb wr b (off+k * 4) (.string x.name) (cB _ _ aY.1);have d1:=Na wr b (off+k * 4+1) x.ck (cB _ _ aY.2.1);have d2:=Nb wr b (off+k * 4+2) (.string x.cn) (cB _ _ aY.2.2.1);have d3:=Nb wr b (off+k * 4+3) (.int .i32 x.first) (cB _ _ aY.2.2.2);have dT:=mK.out x aj;have eZ:=Nf aP;have xI:IntKind.i32.wrap (k:Int)=(k:Int):=Jbn Vx;clear hx aj aP cB aY q2 q3
     cases aL:x.name.toList.isEmpty
     ·have R1:=Nf (rp.out.same (g:=Jeg (cs.take (k+1))) (fun d _=>by rw [eZ.out,Jef,if_neg (fun he=>by rw [aL] at he;cases he.1)]))
      go_wp2_with fail
      go_roundw
      case rel=>exact⟨k+1,c,Ua,Uw,Nf ((R1.out.keep1 (by rw [heap_alloc_old _ _ Ua])).more Ua),Nf (Qn bB.out (World.grownBy_alloc wr _ _))⟩
      case measure=>simp [intOf];omega
     ·go_wp2_with fail
      refine Jo fun W1 bt=>?_;have ac:=Nd wr W1 Fz;have af:wr.heap.size+1=W1.heap.size:=Dr;have x1:=Na W1 wr.heap.size 1 x.ck Ve;have x2:=Nb W1 wr.heap.size 2 (.string x.cn) Ve;have c2':=Ja ac z2;have cZ:=ltA w 3 W1;obtain⟨v0,st,o0,o1,o2,h0,ro,lK,lp,iy⟩:=Qd.steps Jl0 Jpk (Jvi Tryz.underlying21) Tryz.underlying206 (fun u=>Jbp u) (rp.out.bel ac) dT Ua (v:=(k:Int)) (Jly Vx);unfold kvC at lp;dsimp only at lp;have a1:=lp W1.drew h0;have mL:=Nf iy
      have iz:=Nf (fun(w':World) (hw:∀b o,b≠w.heap.size+3->w'.cell? ⟨b,o,none⟩=W1.cell? ⟨b,o,none⟩)=>
       (⟨(hw _ _ Ua).trans c2',(hw _ _ Ua).trans x1,(hw _ _ Ua).trans x2⟩ :
        w'.cell? ⟨w.heap.size+4,2,none⟩=some (.map (some (w.heap.size+3)))/\w'.cell? ⟨wr.heap.size,1,none⟩=some (.int .i64 x.ck)/\w'.cell? ⟨wr.heap.size,2,none⟩=some (.string x.cn)))
      clear ro lK lp h0 iy bt z2 d0 d1 d2 d3
      go_region_held3 (fun w'=>w'.cell? ⟨w.heap.size+4,2,none⟩=some (.map (some (w.heap.size+3)))/\w'.cell? ⟨wr.heap.size,1,none⟩=some (.int .i64 x.ck)/\w'.cell? ⟨wr.heap.size,2,none⟩=some (.string x.cn))
       (exact iz.out _ (fun b o n1=>by(repeat (rw [Jd9 _ _ _ _ _ n1]));first|done|rfl)) (fail)
      all_goals
       refine Jmo fun W2 gi=>?_;have k1:W2.heap[w.heap.size+3]?=some o2:=by rw [gi];exact Xc _ _ _ cZ
       have aG:W1.grownBy W2 (some (w.heap.size+3)):=by rw [gi];exact Qn (K0 (Jh (Nt))) (Jgd W1.drew _ _)
       have br:=aG.size;have r1:=mL.out W2 k1 (Jeg (cs.take (k+1))) (by rw [eZ.out,Jef,if_pos ⟨aL,rfl,rfl⟩,List.length_take];congr 2;omega) (fun y _ hy=>by rw [eZ.out,Jef,if_neg (fun he=>hy (Prod.ext he.2.1 (by ext1;exact he.2.2)))]);have R1:=Nf r1;have R2:=Nf (Qn bB.out (Qn (K0 ac) aG));clear gi k1 aG r1 a1
       go_wp2_with fail
       go_roundw
       case rel=>exact⟨k+1,_,Ua,Uw,R1,R2⟩
       case measure=>simp [intOf];omega
    ·obtain rfl:k=cs.length:=Ua;have db:=rp.out;rw [List.take_length] at db;have z0:=Nb wr (w.heap.size+4) 0 (.map (some (w.heap.size+1))) (Jr (bB.out.block (w.heap.size+4) Ua U2) q0);have z1:=Nb wr (w.heap.size+4) 1 (.map (some (w.heap.size+2))) (Jr (bB.out.block (w.heap.size+4) Ua U2) q1);have z3:=Nb wr (w.heap.size+4) 3 (.slice A cs.length cap) (Jr (bB.out.block (w.heap.size+4) Ua U2) q3);have R0:=tK.out.keep1 (bB.out.block (w.heap.size+1) Ua U2);have R1:=HT1.out.keep1 (bB.out.block (w.heap.size+2) Ua U2);have HR:=Nf (⟨z0,z1,z2,z3,R0,R1,⟨c,db⟩⟩:Jfw wr (w.heap.size+4) (w.heap.size+1) (w.heap.size+2) (w.heap.size+3) L cs A cap);clear db z0 z1 z2 z3 R0 R1 q0 q1 q2 q3 rp
     go_wp2_with fail
     go_ret;exact⟨⟨_,_,_,_,rfl,HR.out⟩,rq⟩
end Go.Proofs.YtdgjplldlfeolaaGreatDoor
