/- Lemmas. -/
import Derived.Test.YtknfcamdfdfoeaaGreatDoorMac
import Derived.Test.YtknfcamdfdfoeaaGreatDoorZ41
import Derived.Test.YtknfcamdfdfoeaaGreatDoorZ07
import Derived.Test.YtknfcamdfdfoeaaGreatDoorZ17
set_option linter.unusedVariables false
set_option linter.unusedSimpArgs false
set_option maxRecDepth 100000
set_option maxHeartbeats 64000000
namespace Go.Proofs.YtknfcamdfdfoeaaGreatDoor
open Go.RowKit Go.Sort Go.Maps Go.ChangeMaps Go.WideMaps
theorem Jry {W:World} {b o:Nat} {v:Value} (h:W.cell? ⟨b,o,none⟩=some v):W.setCell ⟨b,o,none⟩ v=W:=by
 obtain⟨c,e,fr,h1,h2⟩:=cells_of_cell? h
 have hh:(W.setCell ⟨b,o,none⟩ v).heap=W.heap:=by
  unfold World.setCell;dsimp only;apply Array.ext
  ·exact Ul
  ·intro i h3 h4;rw [Array.getElem_modify]
   split
   ·rename_i hi;subst hi;obtain⟨h5,h6⟩:=Array.getElem?_eq_some_iff.1 h1;rw [h6];simp only [Option.isSome_none,Bool.false_eq_true,if_false]
    have:c.setIfInBounds o v=c:=by
     obtain⟨h7,h8⟩:=Array.getElem?_eq_some_iff.1 h2;apply Array.ext
     ·exact Ul
     ·intro j h9 bM;rw [Array.getElem_setIfInBounds]
      split
      ·rename_i hj;subst hj;exact h8.symm
      ·exact Gd
    rw [this]
   ·exact Gd
 unfold World.setCell at hh ⊢;dsimp only at hh;rw [hh]
theorem Jiw (W:World):Jd5 W Im.zero ⟨none,0,none,0,none,0⟩:=⟨Qc.nil _,Jar _,Jar _⟩
theorem J3.set {V W:World} {l:List (Int×Int)} {A:Option Addr} {cap:Nat} (h0:J3 V l A cap) (h:J3 W l A cap) {g:Nat} (hg:V.heap.size<=g) (o:Nat) (u:Value):J3 (W.setCell ⟨g,o,none⟩ u) l A cap:=by
 refine⟨h.1,h.2.1,h.2.2.1,fun hm=>?_⟩;obtain⟨b,off,hA,hc⟩:=h.2.2.2 hm;obtain⟨b',off',lL,hc'⟩:=h0.2.2.2 hm;rw [hA] at lL;simp only [Option.some.injEq,Addr.mk.injEq] at lL;have aH:=lL.1;refine⟨b,off,hA,fun j u hj=>(Qm _ _ _ _ _ _ ?_).trans (hc j u hj)⟩;have am:b'<V.heap.size:=Nu (hc' j u hj);exact Ua
theorem J3.off {W:World} {l:List (Int×Int)} {A:Option Addr} {cap:Nat} (h:J3 W l A cap) {g:Nat} (hg:∀b off,A=some ⟨b,off,none⟩->b≠g) (o:Nat) (u:Value):J3 (W.setCell ⟨g,o,none⟩ u) l A cap:=by
 refine⟨h.1,h.2.1,h.2.2.1,fun hm=>?_⟩;obtain⟨b,off,hA,hc⟩:=h.2.2.2 hm;exact⟨b,off,hA,fun j u hj=>(Qm _ _ _ _ _ _ (hg b off hA)).trans (hc j u hj)⟩
def zIm:List Value:=[.int .u32 0,.int .u32 0,.int .i64 0,.int .i64 0,.int .i64 0,.int .i64 0,.int .i64 0,.int .i64 0,.slice none 0 0,.slice none 0 0,.slice none 0 0,.int .i64 0,.int .i64 0]
structure Ja9 (w W:World):Prop where
 bel:Below w.heap.size w W
 z:∀(o:Nat) (u:Value),zIm[o]?=some u->W.cell? ⟨w.heap.size+1,o,none⟩=some u
 fz:∀o,W.frozen? ⟨w.heap.size+1,o,none⟩=false
 f:W.cell? ⟨w.heap.size+1+1,0,none⟩=some (.int .i64 0)/\W.cell? ⟨w.heap.size+1+1,1,none⟩=some (.int .i64 0)/\W.cell? ⟨w.heap.size+1+1,2,none⟩=some (.int .i64 0)
 ff:∀o,W.frozen? ⟨w.heap.size+1+1,o,none⟩=false
 lt:w.heap.size+3<=W.heap.size
theorem Ja9.later {w W W':World} (h:Ja9 w W) (hb:Below W.heap.size W W'):Ja9 w W':=by
 have hl:=h.lt;exact⟨Jd h.bel hb,fun o u ho=>Ja hb (h.z o u ho),fun o=>(Jf hb _ _ Ua).trans (h.fz o),⟨Ja hb h.f.1,Ja hb h.f.2.1,Ja hb h.f.2.2⟩,fun o=>(Jf hb _ _ Ua).trans (h.ff o),Dx⟩
theorem Ja9.set {w W:World} (h:Ja9 w W) {b:Nat} (hb:w.heap.size+3<=b) (o:Nat) (u:Value):Ja9 w (W.setCell ⟨b,o,none⟩ u):=
 ⟨Below.setCell h.bel (show w.heap.size<=b by omega) _,fun o' u' ho=>(Qm _ _ _ _ _ _ Ua).trans (h.z o' u' ho),fun o'=>(World.frozen?_setCell ..).trans (h.fz o'),⟨(Qm _ _ _ _ _ _ Ua).trans h.f.1,(Qm _ _ _ _ _ _ Ua).trans h.f.2.1,(Qm _ _ _ _ _ _ Ua).trans h.f.2.2⟩,fun o'=>(World.frozen?_setCell ..).trans (h.ff o'),by simpa using h.lt⟩
theorem Ja9.new (w:World) (p:Array Value) (t:TypeId) (t2 t3:TypeId):Ja9 w (((w.alloc (.cells p t)).alloc (.cells zIm.toArray t2)).alloc (.cells #[.int .i64 0,.int .i64 0,.int .i64 0] t3)):=by
 have e1:(w.alloc (.cells p t)).heap.size=w.heap.size+1:=Ul;have e2:((w.alloc (.cells p t)).alloc (.cells zIm.toArray t2)).heap.size=w.heap.size+1+1:=Ul;refine⟨Jb,fun o u ho=>?_,fun o=>Uq,⟨Uq,Uq,Uq⟩,fun o=>Uq,Ul⟩;have h1:=Kw (w.alloc (.cells p t)) zIm.toArray t2 o;rw [e1] at h1;exact J4 (h1.trans (by simpa using ho))
theorem Jvd {p:Pr} (h:(Xg p).2.2=(0,0,0)):Ks p=(0,0,0)/\¬16<(Jq p).length/\¬600<(Xs p).length/\Xg p=(Xs p,(((Je p).length:Int),((Jq p).length:Int),((Jq p).length:Int),(p.ins.length:Int),(p.outs.length:Int)),(0,0,0)):=by
 unfold Xg at h ⊢
 by_cases hc:(Kf p).2=(0,0,0)
 ·rw [if_pos hc] at h ⊢
  by_cases h6:600<(Xs p).length
  ·rw [if_pos h6] at h;exact absurd (show((4:Int),(0:Int),(3:Int))=(0,0,0) from h) Ux
  ·rw [if_neg h6];exact⟨(Jbb hc).1,(Jbb hc).2,h6,rfl⟩
 ·rw [if_neg hc] at h;exact absurd h hc
theorem Jiy (p:Pr) (a:PrA) (v:Int) (w:World) (hg:Ql w) (hp:Kr w p a) (aw:Q4 p) (n1:p.ins.length<=1000000) (n2:p.outs.length<=1000000) (n3:p.locals.length<=1000000) (n4:p.eqs.length<=1000000) (hv:0<=v/\v<4294967296) :
  Calls Tryz.prog 13 #[prV p a,.int .u32 v] w fun r w'=>(∃ia,r = .returned (.tuple #[imV (imE p v).1 ia,fV (imE p v).2])/\Jd5 w' (imE p v).1 ia)/\Below w.heap.size w w':=by
 have aZ:=fun W h=>Jof p a W (hg.later h) (hp.later h) aw n1 n2 n3 n4;have hsid:∀(W:World) (b o:Nat) (v:Value),W.cell? ⟨b,o,none⟩=some v->W.setCell ⟨b,o,none⟩ v=W:=fun _ _ _ _ h=>Jry h;have fM:Tryz.prog.eqGuardType Tryz.prog.depth 34=false:=Ug
 by_cases hf:(Xg p).2.2=(0,0,0)
 ·obtain⟨hS,tY,lR,et⟩:=Jvd hf;have bO:=Jff hS;rw [et] at aZ;have dp:∀w,(Op.equalIn 10000 34 (.agg #[.int .i64 0,.int .i64 0,.int .i64 0]) (.agg #[.int .i64 0,.int .i64 0,.int .i64 0])).run Tryz.prog w = .ok true w:=fun w=>So
  by_cases dD:v=0
  ·subst dD;have hv:imE p 0=(Im.zero,(4,0,1)):=by unfold imE;rw [if_neg (fun h=>h hf),if_pos rfl]
   rw [hv];obtain⟨A1,c1,A2,c2,A3,c3,A4,c4⟩:=a;unfold prV fV frT at *;dsimp only at *;clear hg hp aw hf hv et bO;generalize (Je p).length=nv at *;generalize (Jq p).length=nc at *;generalize Xs p=cl at *
   go_enter Tryz.func13,Tryz.ntmps13
   go_upto_region 2 with (go_at_call 8;go_loud (refine(aZ _ Jb).mono ?_;rintro r wa ⟨⟨A,cap,rfl,aY,lS⟩,aA⟩))
   refine Jo fun V hV=>?_;have hi:Ja9 w V:=Vu;have s0:=Na V (wa.heap.size+1) 0 0 U3;have s1:=Na V (wa.heap.size+1) 1 0 U3;have s2:=Na V (wa.heap.size+1) 2 0 U3;have z0:=Nb V (w.heap.size+1) 0 (.int .u32 0) (hi.z 0 _ rfl);have z1:=Nb V (w.heap.size+1) 1 (.int .u32 0) (hi.z 1 _ rfl);have z2:=Na V (w.heap.size+1) 2 0 (hi.z 2 _ rfl);have z3:=Na V (w.heap.size+1) 3 0 (hi.z 3 _ rfl);have z4:=Na V (w.heap.size+1) 4 0 (hi.z 4 _ rfl);have z5:=Na V (w.heap.size+1) 5 0 (hi.z 5 _ rfl);have z6:=Na V (w.heap.size+1) 6 0 (hi.z 6 _ rfl);have z7:=Na V (w.heap.size+1) 7 0 (hi.z 7 _ rfl);have z8:=Nb V (w.heap.size+1) 8 (.slice none 0 0) (hi.z 8 _ rfl);have z9:=Nb V (w.heap.size+1) 9 (.slice none 0 0) (hi.z 9 _ rfl);have z10:=Nb V (w.heap.size+1) 10 (.slice none 0 0) (hi.z 10 _ rfl);have z11:=Na V (w.heap.size+1) 11 0 (hi.z 11 _ rfl);have z12:=Na V (w.heap.size+1) 12 0 (hi.z 12 _ rfl);have y0:=Nc V (w.heap.size+1) 0 (hi.fz 0);have y1:=Nc V (w.heap.size+1) 1 (hi.fz 1);have y2:=Nc V (w.heap.size+1) 2 (hi.fz 2);have y3:=Nc V (w.heap.size+1) 3 (hi.fz 3);have y4:=Nc V (w.heap.size+1) 4 (hi.fz 4);have y5:=Nc V (w.heap.size+1) 5 (hi.fz 5);have y6:=Nc V (w.heap.size+1) 6 (hi.fz 6);have y7:=Nc V (w.heap.size+1) 7 (hi.fz 7);have y8:=Nc V (w.heap.size+1) 8 (hi.fz 8);have y9:=Nc V (w.heap.size+1) 9 (hi.fz 9);have y10:=Nc V (w.heap.size+1) 10 (hi.fz 10);have y11:=Nc V (w.heap.size+1) 11 (hi.fz 11);have y12:=Nc V (w.heap.size+1) 12 (hi.fz 12);have f0:=Na V (w.heap.size+1+1) 0 0 hi.f.1;have f1:=Na V (w.heap.size+1+1) 1 0 hi.f.2.1;have f2:=Na V (w.heap.size+1+1) 2 0 hi.f.2.2;have ff0:=Nc V (w.heap.size+1+1) 0 (hi.ff 0);have ff1:=Nc V (w.heap.size+1+1) 1 (hi.ff 1);have ff2:=Nc V (w.heap.size+1+1) 2 (hi.ff 2);have HI:=Nf hi;clear hV hi aZ
   go_wp2_with fail
   refine Nv (v:= .tuple #[.agg #[.int .u32 0,.int .u32 0,.int .i64 0,.int .i64 0,.int .i64 0,.int .i64 0,.int .i64 0,.int .i64 0,.slice none 0 0,.slice none 0 0,.slice none 0 0,.int .i64 0,.int .i64 0],.agg #[.int .i64 4,.int .i64 0,.int .i64 1]]) Fw rfl ⟨⟨⟨none,0,none,0,none,0⟩,rfl,Jiw _⟩,?_⟩;exact Below.setCell (Below.setCell HI.out.bel (show w.heap.size<=w.heap.size+1+1 by omega) _) (show w.heap.size<=w.heap.size+1+1 by omega) _
  ·have tv:(v == 0)=false:=by simpa using dD
   have gR:=fun W h=>Jqm p a W (hg.later h) (hp.later h) aw n1 n2 n3 n4;rw [show Kf p=(Jq p,(0,0,0)) by unfold Kf;rw [if_pos hS,if_neg tY]] at gR;have hN:=Jvr bO aw tY;have hF:=Jt7 aw;have sB:Jsj (Jd8 p v):=⟨hv,Tm,hF,hN,fun i hi=>by cases hi⟩;have hie:imE p v=if (Jdl (Jd8 p v)).2≠0 then(Im.zero,(4,0,(Jdl (Jd8 p v)).2)) else(Jd8 p v,(0,0,0)):=by unfold imE;rw [if_neg (fun h=>h hf),if_neg dD]
   have pl:=fun A cap W h=>Jmz (Xs p) A cap (Jke p) W h hN;have yj:(Jq p).map (fun c=>Value.int .i32 c.first)=nuI ((Jq p).map (·.first)):=by unfold nuI;rw [List.map_map];rfl
   rw [yj] at gR
   have tZ:=fun(A:Option Addr) (cap:Nat) (A5:Option Addr) (c5:Nat) W (h1:Qc W (nuI ((Jq p).map (·.first))) (Jq p).length A5 c5) (h2:J3 W (Xs p) A cap)=>
    Jos (Jd8 p v) ⟨A5,c5,A,cap,none,0⟩ W ⟨Lv,h2,Jar _⟩ sB
   have jP:∀(A:Option Addr) (cap:Nat) (A5:Option Addr) (c5:Nat),imV (Jd8 p v) ⟨A5,c5,A,cap,none,0⟩ = .agg #[.int .u32 v,.int .u32 0,.int .i64 0,.int .i64 (Je p).length,.int .i64 (Jq p).length,.int .i64 (Jq p).length,.int .i64 p.ins.length,.int .i64 p.outs.length,.slice A5 (Jq p).length c5,.slice A (Xs p).length cap,.slice none 0 0,.int .i64 (Yi (Xs p) (Jke p)).1.2,.int .i64 0]:=fun A cap A5 c5=>by
    unfold imV Jd8 Jke;exact Ul
   have yk:frV (Jke p) = .agg #[.int .i64 (Je p).length,.int .i64 (Jq p).length,.int .i64 (Jq p).length,.int .i64 p.ins.length,.int .i64 p.outs.length]:=rfl;rw [yk] at pl;simp only [jP] at tZ;obtain⟨A1,c1,A2,c2,A3,c3,A4,c4⟩:=a;unfold prV fV frT Jk7 at *;dsimp only at *;rw [hie];clear hg hp aw hf hie et bO hv hN hF sB yj yk tY lR hS;have ni0:True:=trivial;generalize hee:Jdl (Jd8 p v)=E at *;generalize hjj:Yi (Xs p) (Jke p)=J at *;have fY:=Nf jP;clear jP hee;generalize cp:nuI ((Jq p).map (·.first))=nu at *;generalize yl:Xs p=cl at *;have HNU:=Nf cp;have mK:=Nf yl;clear cp yl hjj ni0;generalize jq:(Je p).length=nv at *;generalize xz:(Jq p).length=nc at *;generalize hni:p.ins.length=ni at *;generalize oG:p.outs.length=no at *;clear jq;have HNC:=Nf xz;clear xz hni oG;obtain⟨El,Ee⟩:=E;dsimp only at *
   by_cases he:Ee=0
   ·subst he;rw [if_neg Ux]
    go_enter Tryz.func13,Tryz.ntmps13
    go_upto_region 2 with (go_at_call 8;go_loud (refine(aZ _ Jb).mono ?_;rintro r wa ⟨⟨A,cap,rfl,aY,lS⟩,aA⟩))
    refine Jo fun V hV=>?_;have bK:=Nd wa V Mv;have hi:Ja9 w V:=Vu;have s0:=Na V (wa.heap.size+1) 0 0 U3;have s1:=Na V (wa.heap.size+1) 1 0 U3;have s2:=Na V (wa.heap.size+1) 2 0 U3;have k0:=Na V wa.heap.size 0 nv U3;have k1:=Na V wa.heap.size 1 nc U3;have k2:=Na V wa.heap.size 2 nc U3;have k3:=Na V wa.heap.size 3 ni U3;have k4:=Na V wa.heap.size 4 no U3;have p0:=Nb V w.heap.size 0 (.string p.name) (Ja bK (Ja aA Uq));have p1:=Nb V w.heap.size 1 (.slice A1 ni c1) (Ja bK (Ja aA Uq));have p2:=Nb V w.heap.size 2 (.slice A2 no c2) (Ja bK (Ja aA Uq));have p3:=Nb V w.heap.size 3 (.slice A3 p.locals.length c3) (Ja bK (Ja aA Uq));have p4:=Nb V w.heap.size 4 (.slice A4 p.eqs.length c4) (Ja bK (Ja aA Uq));have cN:w.heap.size+3<=wa.heap.size:=Ut;have mQ:wa.heap.size+2<=V.heap.size:=Sc;have HI:=Nf hi;have kO:∀b off,A=some ⟨b,off,none⟩->w.heap.size+3<=b:=fun b off h=>by have:=lS b off h;simpa using this
    have yn:=Nf kO;clear lS kO;have ua:=Nf (aY.later bK);have lu:=lt0 w V;clear hV hi aZ aY bK aA
    go_upto_region 7 with fail
    refine Jo fun V2 bz=>?_;have aq:=Nd V V2 (by rw [bz];exact Jc (Nt) _)
    have m0:=Nb V2 V.heap.size 0 (.int .u32 v) Uz;have m1:=Nb V2 V.heap.size 1 (.int .u32 0) Uz;have m2:=Na V2 V.heap.size 2 0 Uz;have m3:=Na V2 V.heap.size 3 nv Uz;have m4:=Na V2 V.heap.size 4 nc Uz;have m5:=Na V2 V.heap.size 5 nc Uz;have m6:=Na V2 V.heap.size 6 ni Uz;have m7:=Na V2 V.heap.size 7 no Uz;have m8:=Nb V2 V.heap.size 8 (.slice none 0 0) Uz;have m9:=Nb V2 V.heap.size 9 (.slice A cl.length cap) Uz;have m10:=Nb V2 V.heap.size 10 (.slice none 0 0) Uz;have m11:=Na V2 V.heap.size 11 0 Uz;have m12:=Na V2 V.heap.size 12 0 Uz;have g8:=Nc V2 V.heap.size 8 Uz;have g11:=Nc V2 V.heap.size 11 Uz;have br:V.heap.size<V2.heap.size:=by rw [bz];simp
    replace p0:=Ja aq p0;replace p1:=Ja aq p1;replace p2:=Ja aq p2;replace p3:=Ja aq p3;replace p4:=Ja aq p4;replace k0:=Ja aq k0;replace k1:=Ja aq k1;replace k2:=Ja aq k2;replace k3:=Ja aq k3;replace k4:=Ja aq k4;have mU:=Nf (HI.out.later aq);have pn:=Nf (ua.out.later aq);have po:=Nf ua.out;clear bz aq s0 s1 s2 HI ua
    go_upto_region 8 with (go_at_call 34;go_loud (refine(gR _ mU.out.bel).mono ?_;rintro r wf ⟨⟨vf,rfl,gw⟩,bZ⟩;obtain⟨A5,c5,rfl,ub⟩:=Qc.of_own gw;have n8:=Ja bZ m8;have o8:=Nc wf V.heap.size 8 ((Jf bZ _ _ br).trans g8)))
    refine Jo fun V3 dl=>?_;have eq:=bZ.size;have aE:V3.ownsRow V2.heap.size 21 1 (.slice A5 nc c5) nc nu:=Ml;have lT:Hid (J3 V3 cl A cap):=F4;have lQ:Hid (Ja9 w V3):=Ud8;have r0:=Nb V3 V.heap.size 0 (.int .u32 v) (by rw [dl,J5 _ _ _ _ _ Ux];exact Ja bZ m0)
    have r1:=Nb V3 V.heap.size 1 (.int .u32 0) (by rw [dl,J5 _ _ _ _ _ Ux];exact Ja bZ m1)
    have r2:=Na V3 V.heap.size 2 0 (by rw [dl,J5 _ _ _ _ _ Ux];exact Ja bZ m2)
    have r3:=Na V3 V.heap.size 3 nv (by rw [dl,J5 _ _ _ _ _ Ux];exact Ja bZ m3)
    have r4:=Na V3 V.heap.size 4 nc (by rw [dl,J5 _ _ _ _ _ Ux];exact Ja bZ m4)
    have r5:=Na V3 V.heap.size 5 nc (by rw [dl,J5 _ _ _ _ _ Ux];exact Ja bZ m5)
    have r6:=Na V3 V.heap.size 6 ni (by rw [dl,J5 _ _ _ _ _ Ux];exact Ja bZ m6)
    have r7:=Na V3 V.heap.size 7 no (by rw [dl,J5 _ _ _ _ _ Ux];exact Ja bZ m7)
    have r8:=Nb V3 V.heap.size 8 (.slice A5 nc c5) Dc;have r9:=Nb V3 V.heap.size 9 (.slice A cl.length cap) (by rw [dl,J5 _ _ _ _ _ Ux];exact Ja bZ m9)
    have r10:=Nb V3 V.heap.size 10 (.slice none 0 0) (by rw [dl,J5 _ _ _ _ _ Ux];exact Ja bZ m10)
    have r11:=Na V3 V.heap.size 11 0 (by rw [dl,J5 _ _ _ _ _ Ux];exact Ja bZ m11)
    have r12:=Na V3 V.heap.size 12 0 (by rw [dl,J5 _ _ _ _ _ Ux];exact Ja bZ m12)
    have g11':=Nc V3 V.heap.size 11 Gn;replace k0:=Na V3 wa.heap.size 0 nv (by rw [dl,Qm _ _ _ _ _ _ Ua];exact Ja bZ k0)
    replace k1:=Na V3 wa.heap.size 1 nc (by rw [dl,Qm _ _ _ _ _ _ Ua];exact Ja bZ k1)
    replace k2:=Na V3 wa.heap.size 2 nc (by rw [dl,Qm _ _ _ _ _ _ Ua];exact Ja bZ k2)
    replace k3:=Na V3 wa.heap.size 3 ni (by rw [dl,Qm _ _ _ _ _ _ Ua];exact Ja bZ k3)
    replace k4:=Na V3 wa.heap.size 4 no (by rw [dl,Qm _ _ _ _ _ _ Ua];exact Ja bZ k4)
    have fe:V2.heap.size<=V3.heap.size:=by rw [dl];simpa using eq
    have kI:=lt0 V V3;have iK:=Nf aE;clear dl ub gw gR m0 m1 m2 m3 m4 m5 m6 m7 m8 m9 m10 m11 m12 g8 g11 n8 o8 p0 p1 p2 p3 p4 aE bZ pn mU
    go_upto_region 10 with (go_at_call 35;go_loud (refine(pl A cap _ lT.out).mono ?_;rintro r wj ⟨rfl,dQ⟩;have q11:=Ja dQ r11;have o11:=Nc wj V.heap.size 11 ((Jf dQ _ _ kI).trans g11');have hzj:V.heap.size<wj.heap.size:=(by have:=dQ.size;omega)))
    refine Jo fun V4 eE=>?_;have hzj2:=dQ.size;have cj:V4.ownsRow V2.heap.size 21 1 (.slice A5 nc c5) nc nu:=Fe;have lU:Hid (J3 V4 cl A cap):=Ly;have qP:Hid (Ja9 w V4):=Udq;have t0:=Nb V4 V.heap.size 0 (.int .u32 v) Udy;have t1:=Nb V4 V.heap.size 1 (.int .u32 0) Udz;have t2:=Na V4 V.heap.size 2 0 Ud0;have t3:=Na V4 V.heap.size 3 nv Ud1;have t4:=Na V4 V.heap.size 4 nc Ud2;have t5:=Na V4 V.heap.size 5 nc Ud3;have t6:=Na V4 V.heap.size 6 ni Ud4;have t7:=Na V4 V.heap.size 7 no Ud5;have t8:=Nb V4 V.heap.size 8 (.slice A5 nc c5) Ud6;have t9:=Nb V4 V.heap.size 9 (.slice A cl.length cap) Ud7;have t10:=Nb V4 V.heap.size 10 (.slice none 0 0) Udw;have t11:=Na V4 V.heap.size 11 J.1.2 Ge;have t12:=Na V4 V.heap.size 12 0 Udx;have qS:V.heap.size<V4.heap.size:=by rw [eE];simp;omega
    have iL:=Nf cj;clear eE r0 r1 r2 r3 r4 r5 r6 r7 r8 r9 r10 r11 r12 g11' cj iK lT lQ pl q11 o11 k0 k1 k2 k3 k4 dQ
    go_upto_region 11 with (go_at_call 36;go_loud (refine(tZ A cap A5 c5 _ (Qc.own2 iL.out) lU.out).mono ?_;rintro r we ⟨⟨Ae,ce,rfl⟩,ef⟩))
    refine Jo fun V5 gy=>?_;have da:=Nd V4 V5 (by rw [gy];exact ef)
    have bP:=qP.out.later da;have z0:=Nb V5 (w.heap.size+1) 0 (.int .u32 0) (bP.z 0 _ rfl);have z1:=Nb V5 (w.heap.size+1) 1 (.int .u32 0) (bP.z 1 _ rfl);have z2:=Na V5 (w.heap.size+1) 2 0 (bP.z 2 _ rfl);have z3:=Na V5 (w.heap.size+1) 3 0 (bP.z 3 _ rfl);have z4:=Na V5 (w.heap.size+1) 4 0 (bP.z 4 _ rfl);have z5:=Na V5 (w.heap.size+1) 5 0 (bP.z 5 _ rfl);have z6:=Na V5 (w.heap.size+1) 6 0 (bP.z 6 _ rfl);have z7:=Na V5 (w.heap.size+1) 7 0 (bP.z 7 _ rfl);have z8:=Nb V5 (w.heap.size+1) 8 (.slice none 0 0) (bP.z 8 _ rfl);have z9:=Nb V5 (w.heap.size+1) 9 (.slice none 0 0) (bP.z 9 _ rfl);have z10:=Nb V5 (w.heap.size+1) 10 (.slice none 0 0) (bP.z 10 _ rfl);have z11:=Na V5 (w.heap.size+1) 11 0 (bP.z 11 _ rfl);have z12:=Na V5 (w.heap.size+1) 12 0 (bP.z 12 _ rfl);have y0:=Nc V5 (w.heap.size+1) 0 (bP.fz 0);have y1:=Nc V5 (w.heap.size+1) 1 (bP.fz 1);have y2:=Nc V5 (w.heap.size+1) 2 (bP.fz 2);have y3:=Nc V5 (w.heap.size+1) 3 (bP.fz 3);have y4:=Nc V5 (w.heap.size+1) 4 (bP.fz 4);have y5:=Nc V5 (w.heap.size+1) 5 (bP.fz 5);have y6:=Nc V5 (w.heap.size+1) 6 (bP.fz 6);have y7:=Nc V5 (w.heap.size+1) 7 (bP.fz 7);have y8:=Nc V5 (w.heap.size+1) 8 (bP.fz 8);have y9:=Nc V5 (w.heap.size+1) 9 (bP.fz 9);have y10:=Nc V5 (w.heap.size+1) 10 (bP.fz 10);have y11:=Nc V5 (w.heap.size+1) 11 (bP.fz 11);have y12:=Nc V5 (w.heap.size+1) 12 (bP.fz 12);have f0:=Na V5 (w.heap.size+1+1) 0 0 bP.f.1;have f1:=Na V5 (w.heap.size+1+1) 1 0 bP.f.2.1;have f2:=Na V5 (w.heap.size+1+1) 2 0 bP.f.2.2;have ff0:=Nc V5 (w.heap.size+1+1) 0 (bP.ff 0);have ff1:=Nc V5 (w.heap.size+1+1) 1 (bP.ff 1);have ff2:=Nc V5 (w.heap.size+1+1) 2 (bP.ff 2);have wK:=Nf bP;have sC:=Nf (Jy iL.out da);have yo:=Nf (lU.out.later da);have x0:=Nb V5 V.heap.size 0 (.int .u32 v) (Ja da t0);have x1:=Nb V5 V.heap.size 1 (.int .u32 0) (Ja da t1);have x2:=Na V5 V.heap.size 2 0 (Ja da t2);have x3:=Na V5 V.heap.size 3 nv (Ja da t3);have x4:=Na V5 V.heap.size 4 nc (Ja da t4);have x5:=Na V5 V.heap.size 5 nc (Ja da t5);have x6:=Na V5 V.heap.size 6 ni (Ja da t6);have x7:=Na V5 V.heap.size 7 no (Ja da t7);have x8:=Nb V5 V.heap.size 8 (.slice A5 nc c5) (Ja da t8);have x9:=Nb V5 V.heap.size 9 (.slice A cl.length cap) (Ja da t9);have x10:=Nb V5 V.heap.size 10 (.slice none 0 0) (Ja da t10);have x11:=Na V5 V.heap.size 11 J.1.2 (Ja da t11);have x12:=Na V5 V.heap.size 12 0 (Ja da t12);clear bP gy da ef qP iL lU
    go_wp2_with fail
    refine Nv (v:= .tuple #[.agg #[.int .u32 v,.int .u32 0,.int .i64 0,.int .i64 nv,.int .i64 nc,.int .i64 nc,.int .i64 ni,.int .i64 no,.slice A5 nc c5,.slice A cl.length cap,.slice none 0 0,.int .i64 J.1.2,.int .i64 0],.agg #[.int .i64 0,.int .i64 0,.int .i64 0]]) Fw rfl ⟨⟨⟨A5,c5,A,cap,none,0⟩,by rw [fY.out],?_⟩,?_⟩
    ·have cP:J3 V5 cl A cap:=yo.out;have hfi:=sC.out;refine⟨?_,?_,Jar _⟩
     ·show Qc _ (nuI ((Jq p).map (·.first))) ((Jq p).map (·.first)).length A5 c5;rw [List.length_map,HNU.out,HNC.out];refine Qc.own2 (base:=V2.heap.size) (e:=21) ?_;exact Ugd
     ·exact Uf7
    ·exact Ugb
   ·rw [if_pos he];have te:(Ee != 0)=true:=Ta;clear he
    go_enter Tryz.func13,Tryz.ntmps13
    go_upto_region 2 with (go_at_call 8;go_loud (refine(aZ _ Jb).mono ?_;rintro r wa ⟨⟨A,cap,rfl,aY,lS⟩,aA⟩))
    refine Jo fun V hV=>?_;have bK:=Nd wa V Mv;have hi:Ja9 w V:=Vu;have s0:=Na V (wa.heap.size+1) 0 0 U3;have s1:=Na V (wa.heap.size+1) 1 0 U3;have s2:=Na V (wa.heap.size+1) 2 0 U3;have k0:=Na V wa.heap.size 0 nv U3;have k1:=Na V wa.heap.size 1 nc U3;have k2:=Na V wa.heap.size 2 nc U3;have k3:=Na V wa.heap.size 3 ni U3;have k4:=Na V wa.heap.size 4 no U3;have p0:=Nb V w.heap.size 0 (.string p.name) (Ja bK (Ja aA Uq));have p1:=Nb V w.heap.size 1 (.slice A1 ni c1) (Ja bK (Ja aA Uq));have p2:=Nb V w.heap.size 2 (.slice A2 no c2) (Ja bK (Ja aA Uq));have p3:=Nb V w.heap.size 3 (.slice A3 p.locals.length c3) (Ja bK (Ja aA Uq));have p4:=Nb V w.heap.size 4 (.slice A4 p.eqs.length c4) (Ja bK (Ja aA Uq));have cN:w.heap.size+3<=wa.heap.size:=Ut;have mQ:wa.heap.size+2<=V.heap.size:=Sc;have HI:=Nf hi;have kO:∀b off,A=some ⟨b,off,none⟩->w.heap.size+3<=b:=fun b off h=>by have:=lS b off h;simpa using this
    have yn:=Nf kO;clear lS kO;have ua:=Nf (aY.later bK);have lu:=lt0 w V;clear hV hi aZ aY bK aA
    go_upto_region 7 with fail
    refine Jo fun V2 bz=>?_;have aq:=Nd V V2 (by rw [bz];exact Jc (Nt) _)
    have m0:=Nb V2 V.heap.size 0 (.int .u32 v) Uz;have m1:=Nb V2 V.heap.size 1 (.int .u32 0) Uz;have m2:=Na V2 V.heap.size 2 0 Uz;have m3:=Na V2 V.heap.size 3 nv Uz;have m4:=Na V2 V.heap.size 4 nc Uz;have m5:=Na V2 V.heap.size 5 nc Uz;have m6:=Na V2 V.heap.size 6 ni Uz;have m7:=Na V2 V.heap.size 7 no Uz;have m8:=Nb V2 V.heap.size 8 (.slice none 0 0) Uz;have m9:=Nb V2 V.heap.size 9 (.slice A cl.length cap) Uz;have m10:=Nb V2 V.heap.size 10 (.slice none 0 0) Uz;have m11:=Na V2 V.heap.size 11 0 Uz;have m12:=Na V2 V.heap.size 12 0 Uz;have g8:=Nc V2 V.heap.size 8 Uz;have g11:=Nc V2 V.heap.size 11 Uz;have br:V.heap.size<V2.heap.size:=by rw [bz];simp
    replace p0:=Ja aq p0;replace p1:=Ja aq p1;replace p2:=Ja aq p2;replace p3:=Ja aq p3;replace p4:=Ja aq p4;replace k0:=Ja aq k0;replace k1:=Ja aq k1;replace k2:=Ja aq k2;replace k3:=Ja aq k3;replace k4:=Ja aq k4;have mU:=Nf (HI.out.later aq);have pn:=Nf (ua.out.later aq);have po:=Nf ua.out;clear bz aq s0 s1 s2 HI ua
    go_upto_region 8 with (go_at_call 34;go_loud (refine(gR _ mU.out.bel).mono ?_;rintro r wf ⟨⟨vf,rfl,gw⟩,bZ⟩;obtain⟨A5,c5,rfl,ub⟩:=Qc.of_own gw;have n8:=Ja bZ m8;have o8:=Nc wf V.heap.size 8 ((Jf bZ _ _ br).trans g8)))
    refine Jo fun V3 dl=>?_;have eq:=bZ.size;have aE:V3.ownsRow V2.heap.size 21 1 (.slice A5 nc c5) nc nu:=Ml;have lT:Hid (J3 V3 cl A cap):=F4;have lQ:Hid (Ja9 w V3):=Ud8;have r0:=Nb V3 V.heap.size 0 (.int .u32 v) (by rw [dl,J5 _ _ _ _ _ Ux];exact Ja bZ m0)
    have r1:=Nb V3 V.heap.size 1 (.int .u32 0) (by rw [dl,J5 _ _ _ _ _ Ux];exact Ja bZ m1)
    have r2:=Na V3 V.heap.size 2 0 (by rw [dl,J5 _ _ _ _ _ Ux];exact Ja bZ m2)
    have r3:=Na V3 V.heap.size 3 nv (by rw [dl,J5 _ _ _ _ _ Ux];exact Ja bZ m3)
    have r4:=Na V3 V.heap.size 4 nc (by rw [dl,J5 _ _ _ _ _ Ux];exact Ja bZ m4)
    have r5:=Na V3 V.heap.size 5 nc (by rw [dl,J5 _ _ _ _ _ Ux];exact Ja bZ m5)
    have r6:=Na V3 V.heap.size 6 ni (by rw [dl,J5 _ _ _ _ _ Ux];exact Ja bZ m6)
    have r7:=Na V3 V.heap.size 7 no (by rw [dl,J5 _ _ _ _ _ Ux];exact Ja bZ m7)
    have r8:=Nb V3 V.heap.size 8 (.slice A5 nc c5) Dc;have r9:=Nb V3 V.heap.size 9 (.slice A cl.length cap) (by rw [dl,J5 _ _ _ _ _ Ux];exact Ja bZ m9)
    have r10:=Nb V3 V.heap.size 10 (.slice none 0 0) (by rw [dl,J5 _ _ _ _ _ Ux];exact Ja bZ m10)
    have r11:=Na V3 V.heap.size 11 0 (by rw [dl,J5 _ _ _ _ _ Ux];exact Ja bZ m11)
    have r12:=Na V3 V.heap.size 12 0 (by rw [dl,J5 _ _ _ _ _ Ux];exact Ja bZ m12)
    have g11':=Nc V3 V.heap.size 11 Gn;replace k0:=Na V3 wa.heap.size 0 nv (by rw [dl,Qm _ _ _ _ _ _ Ua];exact Ja bZ k0)
    replace k1:=Na V3 wa.heap.size 1 nc (by rw [dl,Qm _ _ _ _ _ _ Ua];exact Ja bZ k1)
    replace k2:=Na V3 wa.heap.size 2 nc (by rw [dl,Qm _ _ _ _ _ _ Ua];exact Ja bZ k2)
    replace k3:=Na V3 wa.heap.size 3 ni (by rw [dl,Qm _ _ _ _ _ _ Ua];exact Ja bZ k3)
    replace k4:=Na V3 wa.heap.size 4 no (by rw [dl,Qm _ _ _ _ _ _ Ua];exact Ja bZ k4)
    have fe:V2.heap.size<=V3.heap.size:=by rw [dl];simpa using eq
    have kI:=lt0 V V3;have iK:=Nf aE;clear dl ub gw gR m0 m1 m2 m3 m4 m5 m6 m7 m8 m9 m10 m11 m12 g8 g11 n8 o8 p0 p1 p2 p3 p4 aE bZ pn mU
    go_upto_region 10 with (go_at_call 35;go_loud (refine(pl A cap _ lT.out).mono ?_;rintro r wj ⟨rfl,dQ⟩;have q11:=Ja dQ r11;have o11:=Nc wj V.heap.size 11 ((Jf dQ _ _ kI).trans g11');have hzj:V.heap.size<wj.heap.size:=(by have:=dQ.size;omega)))
    refine Jo fun V4 eE=>?_;have hzj2:=dQ.size;have cj:V4.ownsRow V2.heap.size 21 1 (.slice A5 nc c5) nc nu:=Fe;have lU:Hid (J3 V4 cl A cap):=Ly;have qP:Hid (Ja9 w V4):=Udq;have t0:=Nb V4 V.heap.size 0 (.int .u32 v) Udy;have t1:=Nb V4 V.heap.size 1 (.int .u32 0) Udz;have t2:=Na V4 V.heap.size 2 0 Ud0;have t3:=Na V4 V.heap.size 3 nv Ud1;have t4:=Na V4 V.heap.size 4 nc Ud2;have t5:=Na V4 V.heap.size 5 nc Ud3;have t6:=Na V4 V.heap.size 6 ni Ud4;have t7:=Na V4 V.heap.size 7 no Ud5;have t8:=Nb V4 V.heap.size 8 (.slice A5 nc c5) Ud6;have t9:=Nb V4 V.heap.size 9 (.slice A cl.length cap) Ud7;have t10:=Nb V4 V.heap.size 10 (.slice none 0 0) Udw;have t11:=Na V4 V.heap.size 11 J.1.2 Ge;have t12:=Na V4 V.heap.size 12 0 Udx;have qS:V.heap.size<V4.heap.size:=by rw [eE];simp;omega
    have iL:=Nf cj;clear eE r0 r1 r2 r3 r4 r5 r6 r7 r8 r9 r10 r11 r12 g11' cj iK lT lQ pl q11 o11 k0 k1 k2 k3 k4 dQ
    go_upto_region 11 with (go_at_call 36;go_loud (refine(tZ A cap A5 c5 _ (Qc.own2 iL.out) lU.out).mono ?_;rintro r we ⟨⟨Ae,ce,rfl⟩,ef⟩))
    refine Jo fun V5 gy=>?_;have da:=Nd V4 V5 (by rw [gy];exact ef)
    have bP:=qP.out.later da;have z0:=Nb V5 (w.heap.size+1) 0 (.int .u32 0) (bP.z 0 _ rfl);have z1:=Nb V5 (w.heap.size+1) 1 (.int .u32 0) (bP.z 1 _ rfl);have z2:=Na V5 (w.heap.size+1) 2 0 (bP.z 2 _ rfl);have z3:=Na V5 (w.heap.size+1) 3 0 (bP.z 3 _ rfl);have z4:=Na V5 (w.heap.size+1) 4 0 (bP.z 4 _ rfl);have z5:=Na V5 (w.heap.size+1) 5 0 (bP.z 5 _ rfl);have z6:=Na V5 (w.heap.size+1) 6 0 (bP.z 6 _ rfl);have z7:=Na V5 (w.heap.size+1) 7 0 (bP.z 7 _ rfl);have z8:=Nb V5 (w.heap.size+1) 8 (.slice none 0 0) (bP.z 8 _ rfl);have z9:=Nb V5 (w.heap.size+1) 9 (.slice none 0 0) (bP.z 9 _ rfl);have z10:=Nb V5 (w.heap.size+1) 10 (.slice none 0 0) (bP.z 10 _ rfl);have z11:=Na V5 (w.heap.size+1) 11 0 (bP.z 11 _ rfl);have z12:=Na V5 (w.heap.size+1) 12 0 (bP.z 12 _ rfl);have y0:=Nc V5 (w.heap.size+1) 0 (bP.fz 0);have y1:=Nc V5 (w.heap.size+1) 1 (bP.fz 1);have y2:=Nc V5 (w.heap.size+1) 2 (bP.fz 2);have y3:=Nc V5 (w.heap.size+1) 3 (bP.fz 3);have y4:=Nc V5 (w.heap.size+1) 4 (bP.fz 4);have y5:=Nc V5 (w.heap.size+1) 5 (bP.fz 5);have y6:=Nc V5 (w.heap.size+1) 6 (bP.fz 6);have y7:=Nc V5 (w.heap.size+1) 7 (bP.fz 7);have y8:=Nc V5 (w.heap.size+1) 8 (bP.fz 8);have y9:=Nc V5 (w.heap.size+1) 9 (bP.fz 9);have y10:=Nc V5 (w.heap.size+1) 10 (bP.fz 10);have y11:=Nc V5 (w.heap.size+1) 11 (bP.fz 11);have y12:=Nc V5 (w.heap.size+1) 12 (bP.fz 12);have f0:=Na V5 (w.heap.size+1+1) 0 0 bP.f.1;have f1:=Na V5 (w.heap.size+1+1) 1 0 bP.f.2.1;have f2:=Na V5 (w.heap.size+1+1) 2 0 bP.f.2.2;have ff0:=Nc V5 (w.heap.size+1+1) 0 (bP.ff 0);have ff1:=Nc V5 (w.heap.size+1+1) 1 (bP.ff 1);have ff2:=Nc V5 (w.heap.size+1+1) 2 (bP.ff 2);have wK:=Nf bP;have sC:=Nf (Jy iL.out da);have yo:=Nf (lU.out.later da);clear bP gy da ef qP iL lU
    go_wp2_with fail
    refine Nv (v:= .tuple #[.agg #[.int .u32 0,.int .u32 0,.int .i64 0,.int .i64 0,.int .i64 0,.int .i64 0,.int .i64 0,.int .i64 0,.slice none 0 0,.slice none 0 0,.slice none 0 0,.int .i64 0,.int .i64 0],.agg #[.int .i64 4,.int .i64 0,.int .i64 Ee]]) Fw rfl ⟨⟨⟨none,0,none,0,none,0⟩,rfl,Jiw _⟩,?_⟩;exact Uf8
 ·have hv:imE p v=(Im.zero,(Xg p).2.2):=by unfold imE;rw [if_pos hf]
  rw [hv]
  have aS:((Xg p).2.2.1 == 0 && (Xg p).2.2.2.1 == 0 && (Xg p).2.2.2.2 == 0)=false:=by
   exact Ub9
  have dp:∀w,(Op.equalIn 10000 34 (.agg #[.int .i64 (Xg p).2.2.1,.int .i64 (Xg p).2.2.2.1,.int .i64 (Xg p).2.2.2.2]) (.agg #[.int .i64 0,.int .i64 0,.int .i64 0])).run Tryz.prog w = .ok false w:=fun w=>by rw [Zr,aS]
  obtain⟨A1,c1,A2,c2,A3,c3,A4,c4⟩:=a;unfold prV fV frT at *;dsimp only at *;generalize (Xg p).2.2.1=k1 at *;generalize (Xg p).2.2.2.1=k2 at *;generalize (Xg p).2.2.2.2=k3 at *;generalize (Xg p).2.1=fr at *;generalize (Xg p).1=cl at *;clear hg hp aw hf aS hv
  go_enter Tryz.func13,Tryz.ntmps13
  go_upto_region 2 with (go_at_call 8;go_loud (refine(aZ _ Jb).mono ?_;rintro r wa ⟨⟨A,cap,rfl,aY,lS⟩,aA⟩))
  refine Jo fun V hV=>?_;have hi:Ja9 w V:=Vu;have s0:=Na V (wa.heap.size+1) 0 k1 U3;have s1:=Na V (wa.heap.size+1) 1 k2 U3;have s2:=Na V (wa.heap.size+1) 2 k3 U3;have cN:w.heap.size+3<=wa.heap.size:=Ut;have z0:=Nb V (w.heap.size+1) 0 (.int .u32 0) (hi.z 0 _ rfl);have z1:=Nb V (w.heap.size+1) 1 (.int .u32 0) (hi.z 1 _ rfl);have z2:=Na V (w.heap.size+1) 2 0 (hi.z 2 _ rfl);have z3:=Na V (w.heap.size+1) 3 0 (hi.z 3 _ rfl);have z4:=Na V (w.heap.size+1) 4 0 (hi.z 4 _ rfl);have z5:=Na V (w.heap.size+1) 5 0 (hi.z 5 _ rfl);have z6:=Na V (w.heap.size+1) 6 0 (hi.z 6 _ rfl);have z7:=Na V (w.heap.size+1) 7 0 (hi.z 7 _ rfl);have z8:=Nb V (w.heap.size+1) 8 (.slice none 0 0) (hi.z 8 _ rfl);have z9:=Nb V (w.heap.size+1) 9 (.slice none 0 0) (hi.z 9 _ rfl);have z10:=Nb V (w.heap.size+1) 10 (.slice none 0 0) (hi.z 10 _ rfl);have z11:=Na V (w.heap.size+1) 11 0 (hi.z 11 _ rfl);have z12:=Na V (w.heap.size+1) 12 0 (hi.z 12 _ rfl);have y0:=Nc V (w.heap.size+1) 0 (hi.fz 0);have y1:=Nc V (w.heap.size+1) 1 (hi.fz 1);have y2:=Nc V (w.heap.size+1) 2 (hi.fz 2);have y3:=Nc V (w.heap.size+1) 3 (hi.fz 3);have y4:=Nc V (w.heap.size+1) 4 (hi.fz 4);have y5:=Nc V (w.heap.size+1) 5 (hi.fz 5);have y6:=Nc V (w.heap.size+1) 6 (hi.fz 6);have y7:=Nc V (w.heap.size+1) 7 (hi.fz 7);have y8:=Nc V (w.heap.size+1) 8 (hi.fz 8);have y9:=Nc V (w.heap.size+1) 9 (hi.fz 9);have y10:=Nc V (w.heap.size+1) 10 (hi.fz 10);have y11:=Nc V (w.heap.size+1) 11 (hi.fz 11);have y12:=Nc V (w.heap.size+1) 12 (hi.fz 12);have f0:=Na V (w.heap.size+1+1) 0 0 hi.f.1;have f1:=Na V (w.heap.size+1+1) 1 0 hi.f.2.1;have f2:=Na V (w.heap.size+1+1) 2 0 hi.f.2.2;have ff0:=Nc V (w.heap.size+1+1) 0 (hi.ff 0);have ff1:=Nc V (w.heap.size+1+1) 1 (hi.ff 1);have ff2:=Nc V (w.heap.size+1+1) 2 (hi.ff 2);have HI:=Nf hi;clear hV hi aZ
  go_upto_region 3 with fail
  have ar:(fun w':World=>w'.cell? ⟨wa.heap.size+1,0,none⟩=some (.int .i64 k1)/\w'.cell? ⟨wa.heap.size+1,1,none⟩=some (.int .i64 k2)/\w'.cell? ⟨wa.heap.size+1,2,none⟩=some (.int .i64 k3)) V.drew:=⟨s0,s1,s2⟩;dsimp only at ar;refine Kd (fun w'=>w'.cell? ⟨wa.heap.size+1,0,none⟩=some (.int .i64 k1)/\w'.cell? ⟨wa.heap.size+1,1,none⟩=some (.int .i64 k2)/\w'.cell? ⟨wa.heap.size+1,2,none⟩=some (.int .i64 k3)) 3 1 Ug Gd ?_;simp only [List.size_toArray,Nl,Nm,Nat.zero_add,Nat.reduceAdd];refine Ji 0 ar ?_;refine Ji 1 ar ?_;refine Kb 2 ?_;refine Jj fun K hK=>?_;go_simp;refine hK _ _ ⟨ar,Kh Ug ?_⟩;clear hK K
  try simp only [Act.put,sa1,sa2,sa3]
  refine Qx 3 ?_;refine Jj fun K hK=>?_;go_simp;refine hK _ _ ?_;clear hK K
  try simp only [Act.put,sa1,sa2,sa3]
  refine Ki Ug ?_;clear ar
  go_wp2_with fail
  refine Nv (v:= .tuple #[.agg #[.int .u32 0,.int .u32 0,.int .i64 0,.int .i64 0,.int .i64 0,.int .i64 0,.int .i64 0,.int .i64 0,.slice none 0 0,.slice none 0 0,.slice none 0 0,.int .i64 0,.int .i64 0],.agg #[.int .i64 k1,.int .i64 k2,.int .i64 k3]]) Fw rfl ⟨⟨⟨none,0,none,0,none,0⟩,rfl,Jiw _⟩,?_⟩;exact Qq _ _ _ (Jd HI.out.bel (Jh (Nt))) Ua
end Go.Proofs.YtknfcamdfdfoeaaGreatDoor
namespace Go.Proofs.YtknfcamdfdfoeaaGreatDoor
open Go.RowKit Go.Sort
theorem Jd6 (a b c:Int) (w:World):(Op.equalIn 10000 34 (.agg #[.int .i64 a,.int .i64 b,.int .i64 c]) (.agg #[.int .i64 a,.int .i64 b,.int .i64 c])).run Tryz.prog w = .ok true w:=by
 have hS:Tryz.prog.underlying 34=some (.struct (Tryz.prog.fieldsOf 34)):=Ug;have hp:Tryz.prog.stoodInHeld 34=false:=Ug;rw [show(10000:Nat)=9999+1 from rfl,run_equalIn_agg w 9999 34 _ _ hS hp];simp only [Program.fieldsOf,Tryz.underlying34];exact Uq
def zE:Ex:= .mk 0 0 ⟨#[]⟩ []
def vK (s:ByteArray):Va:=⟨s,1,0,⟨#[]⟩⟩
def eK (s:ByteArray):Ex:= .mk 3 0 s []
theorem Jxm (k:Int) (s:ByteArray) (hk:I64 k) (hs:s.size<=maxLen):(Ex.mk k 0 s []).OK:=by
 unfold Ex.OK;exact⟨hk,Vh,hs,by unfold Ex.OKL;trivial⟩
theorem Joa {W:World} {b:Nat} {s:ByteArray} (c0:W.cell? ⟨b,0,none⟩=some (.string s)) (c1:W.cell? ⟨b,1,none⟩=some (.int .i64 1)) (c2:W.cell? ⟨b,2,none⟩=some (.int .i64 0)) (c3:W.cell? ⟨b,3,none⟩=some (.string ⟨#[]⟩)):Ju W [vK s] (some ⟨b,0,none⟩) 1:=by
 refine⟨Ns _,U2,fun _=>⟨b,0,rfl,fun k v hk=>?_⟩⟩
 match k with
 | 0=>
   obtain rfl:vK s=v:=Vw;exact⟨c0,c1,c2,c3⟩
 | k+1=>simp at hk
def pG:Pr:=⟨⟨#[102]⟩,[vK ⟨#[120]⟩],[vK ⟨#[121]⟩],[],[⟨⟨#[121]⟩,0,zE,eK ⟨#[120]⟩⟩]⟩
theorem Jwg:Xg pG=([(6,0),(3,0),(2,0),(3,1),(2,1),(7,0)],(2,0,0,1,1),(0,0,0)):=by decide +kernel
theorem Jw1:(imE pG 3).2=(0,0,0)/\(imE pG 3).1.ver=3/\(imE pG 3).1.sf=6:=by decide +kernel
theorem Jwj:(imE pG 0).2=(4,0,1):=by decide +kernel
theorem Jg2:Q4 pG:=by
 have h1:∀c,(⟨#[c]⟩:ByteArray).size<=maxLen:=fun c=>by unfold maxLen;show 1<=_;omega
 have h0:(⟨#[]⟩:ByteArray).size<=maxLen:=Db;have i0:I64 0:=Vs;have i1:I64 1:=Vs;have i3:I64 3:=Vs;refine⟨h1 _,fun v nI=>?_,fun v nI=>?_,fun v nI=>by simp [pG] at nI,fun q hq=>?_⟩
 ·obtain rfl:v=vK ⟨#[120]⟩:=by simpa [pG] using nI
  exact⟨h1 _,i1,i0,h0⟩
 ·obtain rfl:v=vK ⟨#[121]⟩:=by simpa [pG] using nI
  exact⟨h1 _,i1,i0,h0⟩
 ·obtain rfl:q=⟨⟨#[121]⟩,0,zE,eK ⟨#[120]⟩⟩:=by simpa [pG] using hq
  exact⟨h1 _,i0,Jxm _ _ i0 h0,Jxm _ _ i3 (h1 _)⟩
theorem Jvh {W:World} {b:Nat} (c0:W.cell? ⟨b,0,none⟩=some (.string ⟨#[121]⟩)) (c1:W.cell? ⟨b,1,none⟩=some (.int .i64 0)) (c2:W.cell? ⟨b,2,none⟩=some (.int .i64 0)) (c3:W.cell? ⟨b,3,none⟩=some (.int .i32 0)) (c4:W.cell? ⟨b,4,none⟩=some (.string ⟨#[]⟩)) (c5:W.cell? ⟨b,5,none⟩=some (.slice none 0 0))
  (c6:W.cell? ⟨b,6,none⟩=some (.int .i64 3)) (c7:W.cell? ⟨b,7,none⟩=some (.int .i32 0)) (c8:W.cell? ⟨b,8,none⟩=some (.string ⟨#[120]⟩)) (c9:W.cell? ⟨b,9,none⟩=some (.slice none 0 0)):Jap W [⟨⟨#[121]⟩,0,zE,eK ⟨#[120]⟩⟩] (some ⟨b,0,none⟩) 1:=by
 refine⟨Ns _,U2,fun _=>⟨b,0,rfl,fun j q hj=>?_⟩⟩
 match j with
 | 0=>
   obtain rfl:(⟨⟨#[121]⟩,0,zE,eK ⟨#[120]⟩⟩:Qe)=q:=Sg;exact⟨none,0,none,0,c0,c1,c2,c3,c4,c5,c6,c7,c8,c9,Jp9 _ _ _ _,Jp9 _ _ _ _⟩
 | j+1=>simp at hj
theorem Jxg (a b:Int) (w:World):(Op.equalIn 10000 59 (.agg #[.int .i64 a,.int .i32 b]) (.agg #[.int .i64 a,.int .i32 b])).run Tryz.prog w = .ok true w:=by
 have hS:Tryz.prog.underlying 59=some (.struct (Tryz.prog.fieldsOf 59)):=Ug;have hp:Tryz.prog.stoodInHeld 59=false:=Ug;rw [show(10000:Nat)=9999+1 from rfl,run_equalIn_agg w 9999 59 _ _ hS hp];simp only [Program.fieldsOf,Tryz.underlying59];exact Uq
theorem Jra (a b c d e:Int) (w:World):(Op.equalIn 10000 31 (.agg #[.int .i64 a,.int .i64 b,.int .i64 c,.int .i64 d,.int .i64 e]) (.agg #[.int .i64 a,.int .i64 b,.int .i64 c,.int .i64 d,.int .i64 e])).run Tryz.prog w = .ok true w:=by
 have hS:Tryz.prog.underlying 31=some (.struct (Tryz.prog.fieldsOf 31)):=Ug;have hp:Tryz.prog.stoodInHeld 31=false:=Ug;rw [show(10000:Nat)=9999+1 from rfl,run_equalIn_agg w 9999 31 _ _ hS hp];simp only [Program.fieldsOf,Tryz.underlying31];exact Uq
theorem Jqw (w:World) (hg:Ql w):Calls Tryz.prog 6 #[] w fun r w'=>r = .returned (.bool true)/\Below w.heap.size w w':=by
 have h1:=fun b1 b2 b3 W hg hp=>Jof pG ⟨some ⟨b1,0,none⟩,1,some ⟨b2,0,none⟩,1,none,0,some ⟨b3,0,none⟩,1⟩ W hg hp Jg2 Dj Dj Dj Dj;have h2:=fun b1 b2 b3 W hg hp=>Jiy pG ⟨some ⟨b1,0,none⟩,1,some ⟨b2,0,none⟩,1,none,0,some ⟨b3,0,none⟩,1⟩ 3 W hg hp Jg2 Dj Dj Dj Dj Ua;have h3:=fun b1 b2 b3 W hg hp=>Jiy pG ⟨some ⟨b1,0,none⟩,1,some ⟨b2,0,none⟩,1,none,0,some ⟨b3,0,none⟩,1⟩ 0 W hg hp Jg2 Dj Dj Dj Dj Ua;rw [Jwg] at h1;obtain⟨e1,e2,e3⟩:=Jw1;rw [e1] at h2;rw [Jwj] at h3;generalize (imE pG 3).1=M at *;generalize (imE pG 0).1=M0 at *;obtain⟨mv,mf,me,⟨ma,mb,mc,md,mg⟩,mfirst,mstep,mmove,msf,mmf⟩:=M;obtain⟨mv0,mf0,me0,⟨ma0,mb0,mc0,md0,mg0⟩,mfirst0,mstep0,mmove0,msf0,mmf0⟩:=M0;dsimp only at e2 e3;subst e2 e3
 have zo:=fun(b1 b2 b3:Nat) (W:World) (x1:Ju W [vK ⟨#[120]⟩] (some ⟨b1,0,none⟩) 1) (x2:Ju W [vK ⟨#[121]⟩] (some ⟨b2,0,none⟩) 1) (x3:Jap W [⟨⟨#[121]⟩,0,zE,eK ⟨#[120]⟩⟩] (some ⟨b3,0,none⟩) 1)=>
  (⟨x1,x2,Jv2 _,x3⟩:Kr W pG ⟨some ⟨b1,0,none⟩,1,some ⟨b2,0,none⟩,1,none,0,some ⟨b3,0,none⟩,1⟩)
 have zp:=Nf zo;unfold prV fV at h1 h2 h3;unfold frT at h1;unfold imV at h2 h3;dsimp only [pG,vK,Nl,Nm] at h1 h2 h3;have hfq1:=fun w=>Jd6 0 0 0 w;have ri:=fun w=>Jd6 4 0 1 w;have zq:=fun w=>Jxg 3 1 w;have uf:=fun w=>Jra 2 0 0 1 1 w;have fM:Tryz.prog.eqGuardType Tryz.prog.depth 34=false:=Ug;have hgm2:Tryz.prog.eqGuardType Tryz.prog.depth 59=false:=Ug;have hgm3:Tryz.prog.eqGuardType Tryz.prog.depth 31=false:=Ug;clear e1 zo
 go_enter Tryz.func6,Tryz.ntmps6
 go_upto_region 3 with fail
 refine Jo fun V hV=>?_;have bK:=Nd w V (by rw [hV];exact Jb)
 have p0:=Nb V (w.heap.size+1+1+1+1) 0 (.string ⟨#[102]⟩) U3;have p1:=Nb V (w.heap.size+1+1+1+1) 1 (.slice (some ⟨w.heap.size+1,0,none⟩) 1 1) U3;have p2:=Nb V (w.heap.size+1+1+1+1) 2 (.slice (some ⟨w.heap.size+1+1,0,none⟩) 1 1) U3;have p3:=Nb V (w.heap.size+1+1+1+1) 3 (.slice none 0 0) U3;have p4:=Nb V (w.heap.size+1+1+1+1) 4 (.slice (some ⟨w.heap.size+1+1+1,0,none⟩) 1 1) U3
 have hp:Kr V pG ⟨some ⟨w.heap.size+1,0,none⟩,1,some ⟨w.heap.size+1+1,0,none⟩,1,none,0,some ⟨w.heap.size+1+1+1,0,none⟩,1⟩:=by
  rw [hV];exact zp.out _ _ _ _ (Joa Uq Uq Uq Uq) (Joa Uq Uq Uq Uq) (Jvh Uq Uq Uq Uq Uq Uq Uq Uq Uq Uq)
 have H1:=Nf (fun W (hb:Below V.heap.size V W)=>h1 _ _ _ W (hg.later (Jd bK hb)) (hp.later hb));have H2:=Nf (fun W (hb:Below V.heap.size V W)=>h2 _ _ _ W (hg.later (Jd bK hb)) (hp.later hb));have H3:=Nf (fun W (hb:Below V.heap.size V W)=>h3 _ _ _ W (hg.later (Jd bK hb)) (hp.later hb));have mQ:w.heap.size+5<=V.heap.size:=Sc;clear hV hp h1 h2 h3 zp
 go_upto_region 4 with (go_at_call 8;go_loud (refine(H1.out _ (Nt)).mono ?_;rintro r w1 ⟨⟨A,cap,rfl,aY,-⟩,ac⟩))
 obtain⟨b,off,rfl,aH,y0,y1⟩:=aY.get (k:=3) (x:=(3,1)) rfl;refine Jo fun V1 dq=>?_;have fk:=Nd w1 V1 (by rw [dq];exact Jc (Jc (Nt) _) _)
 have iR:=Nd V V1 (Jd ac fk);have k0:=Na V1 w1.heap.size 0 2 Vd;have k1:=Na V1 w1.heap.size 1 0 Vd;have k2:=Na V1 w1.heap.size 2 0 Vd;have k3:=Na V1 w1.heap.size 3 1 Vd;have k4:=Na V1 w1.heap.size 4 1 Vd;have s0:=Na V1 (w1.heap.size+1) 0 0 Vd;have s1:=Na V1 (w1.heap.size+1) 1 0 Vd;have s2:=Na V1 (w1.heap.size+1) 2 0 Vd;replace y0:=Ja fk y0;replace y1:=Ja fk y1;replace p0:=Ja iR p0;replace p1:=Ja iR p1;replace p2:=Ja iR p2;replace p3:=Ja iR p3;replace p4:=Ja iR p4;clear dq fk aY ac H1
 go_upto_region 5 with (go_at_call 13;go_loud (refine(H2.out _ iR).mono ?_;rintro r w2 ⟨⟨ia,rfl,-⟩,aq⟩))
 refine Jo fun V2 bz=>?_;have fk:=Nd w2 V2 (by rw [bz];exact Jc (Jc (Nt) _) _)
 have eW:=Nd V1 V2 (Jd aq fk);have i0:=Nb V2 w2.heap.size 0 (.int .u32 3) Uz;have i11:=Na V2 w2.heap.size 11 6 Uz;have q0:=Na V2 (w2.heap.size+1) 0 0 Uz;have q1:=Na V2 (w2.heap.size+1) 1 0 Uz;have q2:=Na V2 (w2.heap.size+1) 2 0 Uz;replace y0:=Ja eW y0;replace y1:=Ja eW y1;replace k0:=Ja eW k0;replace k1:=Ja eW k1;replace k2:=Ja eW k2;replace k3:=Ja eW k3;replace k4:=Ja eW k4;replace s0:=Ja eW s0;replace s1:=Ja eW s1;replace s2:=Ja eW s2;replace p0:=Ja eW p0;replace p1:=Ja eW p1;replace p2:=Ja eW p2;replace p3:=Ja eW p3;replace p4:=Ja eW p4;clear bz fk aq H2
 go_upto_region 6 with (go_at_call 13;go_loud (refine(H3.out _ (Jd iR eW)).mono ?_;rintro r w3 ⟨⟨ib,rfl,-⟩,aM⟩))
 refine Jo fun V3 dl=>?_;have fk:=Nd w3 V3 (by rw [dl];exact Jc (Jc (Nt) _) _)
 have fs:=Nd V2 V3 (Jd aM fk);have x0:=Na V3 (w3.heap.size+1) 0 4 (by rw [dl];go_simp)
 have x1:=Na V3 (w3.heap.size+1) 1 0 (by rw [dl];go_simp)
 have x2:=Na V3 (w3.heap.size+1) 2 1 (by rw [dl];go_simp)
 replace y0:=Ja fs y0;replace y1:=Ja fs y1;replace k0:=Ja fs k0;replace k1:=Ja fs k1;replace k2:=Ja fs k2;replace k3:=Ja fs k3;replace k4:=Ja fs k4;replace s0:=Ja fs s0;replace s1:=Ja fs s1;replace s2:=Ja fs s2;replace i0:=Ja fs i0;replace i11:=Ja fs i11;replace q0:=Ja fs q0;replace q1:=Ja fs q1;replace q2:=Ja fs q2;have jh:=Jd bK (Jd iR (Jd eW fs));clear dl fk aM H3 p0 p1 p2 p3 p4 bK iR eW fs
 go_wp2_with fail
 go_ret;exact⟨rfl,jh⟩
end Go.Proofs.YtknfcamdfdfoeaaGreatDoor
