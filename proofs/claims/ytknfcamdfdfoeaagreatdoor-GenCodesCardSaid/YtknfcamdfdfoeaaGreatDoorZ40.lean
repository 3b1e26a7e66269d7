/- Lemmas. -/
import Derived.Test.YtknfcamdfdfoeaaGreatDoorMac
import Derived.Test.YtknfcamdfdfoeaaGreatDoorZ39
import Derived.Test.YtknfcamdfdfoeaaGreatDoorZ16
import Derived.Test.YtknfcamdfdfoeaaGreatDoorZ31
import Derived.Test.YtknfcamdfdfoeaaGreatDoorZ36
set_option linter.unusedVariables false
set_option linter.unusedSimpArgs false
set_option maxRecDepth 100000
set_option maxHeartbeats 64000000
namespace Go.Proofs.YtknfcamdfdfoeaaGreatDoor
open Go.RowKit Go.Sort Go.Maps Go.ChangeMaps Go.WideMaps
theorem Jry {W:World} {b o:Nat} {v:Value} (h:W.cell? ⟨b,o,none⟩=some v):W.setCell ⟨b,o,none⟩ v=W:=by
 obtain⟨c,e,fr,h1,h2⟩:=cells_of_cell? h
 have hh:(W.setCell ⟨b,o,none⟩ v).heap=W.heap:=by
  unfold World.setCell;dsimp only;apply Array.ext
  ·exact Ul
  ·intro i h3 h4;rw [Array.getElem_modify]
   split
   ·rename_i hi;subst hi;obtain⟨h5,h6⟩:=Array.getElem?_eq_some_iff.1 h1;rw [h6];simp only [Option.isSome_none,Bool.false_eq_true,if_false]
    have:c.setIfInBounds o v=c:=by
     obtain⟨h7,h8⟩:=Array.getElem?_eq_some_iff.1 h2;apply Array.ext
     ·exact Ul
     ·intro j h9 bM;rw [Array.getElem_setIfInBounds]
      split
      ·rename_i hj;subst hj;exact h8.symm
      ·exact Gd
    rw [this]
   ·exact Gd
 unfold World.setCell at hh ⊢;dsimp only at hh;rw [hh]
theorem Jiw (W:World):Jd5 W Im.zero ⟨none,0,none,0,none,0⟩:=⟨Qc.nil _,Jar _,Jar _⟩
theorem J3.set {V W:World} {l:List (Int×Int)} {A:Option Addr} {cap:Nat} (h0:J3 V l A cap) (h:J3 W l A cap) {g:Nat} (hg:V.heap.size<=g) (o:Nat) (u:Value):J3 (W.setCell ⟨g,o,none⟩ u) l A cap:=by
 refine⟨h.1,h.2.1,h.2.2.1,fun hm=>?_⟩;obtain⟨b,off,hA,hc⟩:=h.2.2.2 hm;obtain⟨b',off',lL,hc'⟩:=h0.2.2.2 hm;rw [hA] at lL;simp only [Option.some.injEq,Addr.mk.injEq] at lL;have aH:=lL.1;refine⟨b,off,hA,fun j u hj=>(Qm _ _ _ _ _ _ ?_).trans (hc j u hj)⟩;have am:b'<V.heap.size:=block_lt_of_cell (hc' j u hj);exact Ua
theorem J3.off {W:World} {l:List (Int×Int)} {A:Option Addr} {cap:Nat} (h:J3 W l A cap) {g:Nat} (hg:∀b off,A=some ⟨b,off,none⟩->b≠g) (o:Nat) (u:Value):J3 (W.setCell ⟨g,o,none⟩ u) l A cap:=by
 refine⟨h.1,h.2.1,h.2.2.1,fun hm=>?_⟩;obtain⟨b,off,hA,hc⟩:=h.2.2.2 hm;exact⟨b,off,hA,fun j u hj=>(Qm _ _ _ _ _ _ (hg b off hA)).trans (hc j u hj)⟩
def zIm:List Value:=[.int .u32 0,.int .u32 0,.int .i64 0,.int .i64 0,.int .i64 0,.int .i64 0,.int .i64 0,.int .i64 0,.slice none 0 0,.slice none 0 0,.slice none 0 0,.int .i64 0,.int .i64 0]
structure Ja9 (w W:World):Prop where
 bel:Below w.heap.size w W
 z:∀(o:Nat) (u:Value),zIm[o]?=some u->W.cell? ⟨w.heap.size+1,o,none⟩=some u
 fz:∀o,W.frozen? ⟨w.heap.size+1,o,none⟩=false
 f:W.cell? ⟨w.heap.size+1+1,0,none⟩=some (.int .i64 0)/\W.cell? ⟨w.heap.size+1+1,1,none⟩=some (.int .i64 0)/\W.cell? ⟨w.heap.size+1+1,2,none⟩=some (.int .i64 0)
 ff:∀o,W.frozen? ⟨w.heap.size+1+1,o,none⟩=false
 lt:w.heap.size+3<=W.heap.size
theorem Ja9.later {w W W':World} (h:Ja9 w W) (hb:Below W.heap.size W W'):Ja9 w W':=by
 have hl:=h.lt;exact⟨Jd h.bel hb,fun o u ho=>Ja hb (h.z o u ho),fun o=>(Jf hb _ _ Ua).trans (h.fz o),⟨Ja hb h.f.1,Ja hb h.f.2.1,Ja hb h.f.2.2⟩,fun o=>(Jf hb _ _ Ua).trans (h.ff o),Dx⟩
theorem Ja9.set {w W:World} (h:Ja9 w W) {b:Nat} (hb:w.heap.size+3<=b) (o:Nat) (u:Value):Ja9 w (W.setCell ⟨b,o,none⟩ u):=
 ⟨Below.setCell h.bel (show w.heap.size<=b by omega) _,fun o' u' ho=>(Qm _ _ _ _ _ _ Ua).trans (h.z o' u' ho),fun o'=>(World.frozen?_setCell ..).trans (h.fz o'),⟨(Qm _ _ _ _ _ _ Ua).trans h.f.1,(Qm _ _ _ _ _ _ Ua).trans h.f.2.1,(Qm _ _ _ _ _ _ Ua).trans h.f.2.2⟩,fun o'=>(World.frozen?_setCell ..).trans (h.ff o'),by simpa using h.lt⟩
theorem Ja9.new (w:World) (p:Array Value) (t:TypeId) (t2 t3:TypeId):Ja9 w (((w.alloc (.cells p t)).alloc (.cells zIm.toArray t2)).alloc (.cells #[.int .i64 0,.int .i64 0,.int .i64 0] t3)):=by
 have e1:(w.alloc (.cells p t)).heap.size=w.heap.size+1:=Ul;have e2:((w.alloc (.cells p t)).alloc (.cells zIm.toArray t2)).heap.size=w.heap.size+1+1:=Ul;refine⟨Jb,fun o u ho=>?_,fun o=>Uq,⟨Uq,Uq,Uq⟩,fun o=>Uq,Ul⟩;have h1:=Kw (w.alloc (.cells p t)) zIm.toArray t2 o;rw [e1] at h1;exact J4 (h1.trans (by simpa using ho))
theorem Jvd {p:Pr} (h:(Xg p).2.2=(0,0,0)):Ks p=(0,0,0)/\¬16<(Jq p).length/\¬600<(Xs p).length/\Xg p=(Xs p,(((Je p).length:Int),((Jq p).length:Int),((Jq p).length:Int),(p.ins.length:Int),(p.outs.length:Int)),(0,0,0)):=by
 unfold Xg at h ⊢
 by_cases hc:(Kf p).2=(0,0,0)
 ·rw [if_pos hc] at h ⊢
  by_cases h6:600<(Xs p).length
  ·rw [if_pos h6] at h;exact absurd (show((4:Int),(0:Int),(3:Int))=(0,0,0) from h) Ux
  ·rw [if_neg h6];exact⟨(Jbb hc).1,(Jbb hc).2,h6,rfl⟩
 ·rw [if_neg hc] at h;exact absurd h hc
theorem Jiy (p:Pr) (a:PrA) (v:Int) (w:World) (hg:Ql w) (hp:Kr w p a) (aw:Q4 p) (n1:p.ins.length<=1000000) (n2:p.outs.length<=1000000) (n3:p.locals.length<=1000000) (n4:p.eqs.length<=1000000) (hv:0<=v/\v<4294967296) :
  Calls Tryz.prog 13 #[prV p a,.int .u32 v] w fun r w'=>(∃ia,r = .returned (.tuple #[imV (imE p v).1 ia,fV (imE p v).2])/\Jd5 w' (imE p v).1 ia)/\Below w.heap.size w w':=by
 have aZ:=fun W h=>Jof p a W (hg.later h) (hp.later h) aw n1 n2 n3 n4;have hsid:∀(W:World) (b o:Nat) (v:Value),W.cell? ⟨b,o,none⟩=some v->W.setCell ⟨b,o,none⟩ v=W:=fun _ _ _ _ h=>Jry h;have fM:Tryz.prog.eqGuardType Tryz.prog.depth 34=false:=Ug
 by_cases hf:(Xg p).2.2=(0,0,0)
 ·obtain⟨hS,tY,lR,et⟩:=Jvd hf;have bO:=Jff hS;rw [et] at aZ;have dp:∀w,(Op.equalIn 10000 34 (.agg #[.int .i64 0,.int .i64 0,.int .i64 0]) (.agg #[.int .i64 0,.int .i64 0,.int .i64 0])).run Tryz.prog w = .ok true w:=fun w=>So
  by_cases dD:v=0
  ·subst dD;have hv:imE p 0=(Im.zero,(4,0,1)):=by unfold imE;rw [if_neg (fun h=>h hf),if_pos rfl]
   rw [hv];obtain⟨A1,c1,A2,c2,A3,c3,A4,c4⟩:=a;unfold prV fV frT at *;dsimp only at *;clear hg hp aw hf hv et bO;generalize (Je p).length=nv at *;generalize (Jq p).length=nc at *;generalize Xs p=cl at *
   go_enter Tryz.func13,Tryz.ntmps13
   go_upto_region 2 with (go_at_call 8;go_loud (refine(aZ _ Jb).mono ?_;rintro r wa ⟨⟨A,cap,rfl,aY,lS⟩,aA⟩))
   refine Jo fun V hV=>?_;have hi:Ja9 w V:=Vu;have s0:V.cell? ⟨wa.heap.size+1,0,none⟩=some (.int .i64 0):=U3;have s1:V.cell? ⟨wa.heap.size+1,1,none⟩=some (.int .i64 0):=U3;have s2:V.cell? ⟨wa.heap.size+1,2,none⟩=some (.int .i64 0):=U3;have z0:V.cell? ⟨w.heap.size+1,0,none⟩=some (.int .u32 0):=hi.z 0 _ rfl;have z1:V.cell? ⟨w.heap.size+1,1,none⟩=some (.int .u32 0):=hi.z 1 _ rfl;have z2:V.cell? ⟨w.heap.size+1,2,none⟩=some (.int .i64 0):=hi.z 2 _ rfl;have z3:V.cell? ⟨w.heap.size+1,3,none⟩=some (.int .i64 0):=hi.z 3 _ rfl;have z4:V.cell? ⟨w.heap.size+1,4,none⟩=some (.int .i64 0):=hi.z 4 _ rfl;have z5:V.cell? ⟨w.heap.size+1,5,none⟩=some (.int .i64 0):=hi.z 5 _ rfl;have z6:V.cell? ⟨w.heap.size+1,6,none⟩=some (.int .i64 0):=hi.z 6 _ rfl;have z7:V.cell? ⟨w.heap.size+1,7,none⟩=some (.int .i64 0):=hi.z 7 _ rfl;have z8:V.cell? ⟨w.heap.size+1,8,none⟩=some (.slice none 0 0):=hi.z 8 _ rfl;have z9:V.cell? ⟨w.heap.size+1,9,none⟩=some (.slice none 0 0):=hi.z 9 _ rfl;have z10:V.cell? ⟨w.heap.size+1,10,none⟩=some (.slice none 0 0):=hi.z 10 _ rfl;have z11:V.cell? ⟨w.heap.size+1,11,none⟩=some (.int .i64 0):=hi.z 11 _ rfl;have z12:V.cell? ⟨w.heap.size+1,12,none⟩=some (.int .i64 0):=hi.z 12 _ rfl;have y0:V.frozen? ⟨w.heap.size+1,0,none⟩=false:=hi.fz 0;have y1:V.frozen? ⟨w.heap.size+1,1,none⟩=false:=hi.fz 1;have y2:V.frozen? ⟨w.heap.size+1,2,none⟩=false:=hi.fz 2;have y3:V.frozen? ⟨w.heap.size+1,3,none⟩=false:=hi.fz 3;have y4:V.frozen? ⟨w.heap.size+1,4,none⟩=false:=hi.fz 4;have y5:V.frozen? ⟨w.heap.size+1,5,none⟩=false:=hi.fz 5;have y6:V.frozen? ⟨w.heap.size+1,6,none⟩=false:=hi.fz 6;have y7:V.frozen? ⟨w.heap.size+1,7,none⟩=false:=hi.fz 7;have y8:V.frozen? ⟨w.heap.size+1,8,none⟩=false:=hi.fz 8;have y9:V.frozen? ⟨w.heap.size+1,9,none⟩=false:=hi.fz 9;have y10:V.frozen? ⟨w.heap.size+1,10,none⟩=false:=hi.fz 10;have y11:V.frozen? ⟨w.heap.size+1,11,none⟩=false:=hi.fz 11;have y12:V.frozen? ⟨w.heap.size+1,12,none⟩=false:=hi.fz 12;have f0:V.cell? ⟨w.heap.size+1+1,0,none⟩=some (.int .i64 0):=hi.f.1;have f1:V.cell? ⟨w.heap.size+1+1,1,none⟩=some (.int .i64 0):=hi.f.2.1;have f2:V.cell? ⟨w.heap.size+1+1,2,none⟩=some (.int .i64 0):=hi.f.2.2;have ff0:V.frozen? ⟨w.heap.size+1+1,0,none⟩=false:=hi.ff 0;have ff1:V.frozen? ⟨w.heap.size+1+1,1,none⟩=false:=hi.ff 1;have ff2:V.frozen? ⟨w.heap.size+1+1,2,none⟩=false:=hi.ff 2;have HI:=Lib.hid hi;clear hV hi aZ
   go_wp2_with fail
   refine bodyPost_ret (v:= .tuple #[.agg #[.int .u32 0,.int .u32 0,.int .i64 0,.int .i64 0,.int .i64 0,.int .i64 0,.int .i64 0,.int .i64 0,.slice none 0 0,.slice none 0 0,.slice none 0 0,.int .i64 0,.int .i64 0],.agg #[.int .i64 4,.int .i64 0,.int .i64 1]]) Fw rfl ⟨⟨⟨none,0,none,0,none,0⟩,rfl,Jiw _⟩,?_⟩;exact Below.setCell (Below.setCell HI.out.bel (show w.heap.size<=w.heap.size+1+1 by omega) _) (show w.heap.size<=w.heap.size+1+1 by omega) _
  ·have tv:(v == 0)=false:=by simpa using dD
   have gR:=fun W h=>Jqm p a W (hg.later h) (hp.later h) aw n1 n2 n3 n4;rw [show Kf p=(Jq p,(0,0,0)) by unfold Kf;rw [if_pos hS,if_neg tY]] at gR;have hN:=Jvr bO aw tY;have hF:=Jt7 aw;have sB:Jsj (Jd8 p v):=⟨hv,by unfold Jd8;dsimp only;omega,hF,hN,fun i hi=>by cases hi⟩;have hie:imE p v=if (Jdl (Jd8 p v)).2≠0 then(Im.zero,(4,0,(Jdl (Jd8 p v)).2)) else(Jd8 p v,(0,0,0)):=by unfold imE;rw [if_neg (fun h=>h hf),if_neg dD]
   have pl:=fun A cap W h=>Jmz (Xs p) A cap (Jke p) W h hN;have yj:(Jq p).map (fun c=>Value.int .i32 c.first)=nuI ((Jq p).map (·.first)):=by unfold nuI;rw [List.map_map];rfl
   rw [yj] at gR
   have tZ:=fun(A:Option Addr) (cap:Nat) (A5:Option Addr) (c5:Nat) W (h1:Qc W (nuI ((Jq p).map (·.first))) (Jq p).length A5 c5) (h2:J3 W (Xs p) A cap)=>
    Jos (Jd8 p v) ⟨A5,c5,A,cap,none,0⟩ W ⟨by show Qc W (nuI ((Jq p).map (·.first))) ((Jq p).map (·.first)).length A5 c5;rw [List.length_map];exact h1,h2,Jar _⟩ sB
   have jP:∀(A:Option Addr) (cap:Nat) (A5:Option Addr) (c5:Nat),imV (Jd8 p v) ⟨A5,c5,A,cap,none,0⟩ = .agg #[.int .u32 v,.int .u32 0,.int .i64 0,.int .i64 (Je p).length,.int .i64 (Jq p).length,.int .i64 (Jq p).length,.int .i64 p.ins.length,.int .i64 p.outs.length,.slice A5 (Jq p).length c5,.slice A (Xs p).length cap,.slice none 0 0,.int .i64 (Yi (Xs p) (Jke p)).1.2,.int .i64 0]:=fun A cap A5 c5=>by
    unfold imV Jd8 Jke;exact Ul
   have yk:frV (Jke p) = .agg #[.int .i64 (Je p).length,.int .i64 (Jq p).length,.int .i64 (Jq p).length,.int .i64 p.ins.length,.int .i64 p.outs.length]:=rfl;rw [yk] at pl;simp only [jP] at tZ;obtain⟨A1,c1,A2,c2,A3,c3,A4,c4⟩:=a;unfold prV fV frT Jk7 at *;dsimp only at *;rw [hie];clear hg hp aw hf hie et bO hv hN hF sB yj yk tY lR hS;have ni0:True:=trivial;generalize hee:Jdl (Jd8 p v)=E at *;generalize hjj:Yi (Xs p) (Jke p)=J at *;have fY:=Lib.hid jP;clear jP hee;generalize cp:nuI ((Jq p).map (·.first))=nu at *;generalize yl:Xs p=cl at *;have HNU:=Lib.hid cp;have mK:=Lib.hid yl;clear cp yl hjj ni0;generalize jq:(Je p).length=nv at *;generalize xz:(Jq p).length=nc at *;generalize hni:p.ins.length=ni at *;generalize oG:p.outs.length=no at *;clear jq;have HNC:=Lib.hid xz;clear xz hni oG;obtain⟨El,Ee⟩:=E;dsimp only at *
   by_cases he:Ee=0
   ·subst he;rw [if_neg Ux]
    go_enter Tryz.func13,Tryz.ntmps13
    go_upto_region 2 with (go_at_call 8;go_loud (refine(aZ _ Jb).mono ?_;rintro r wa ⟨⟨A,cap,rfl,aY,lS⟩,aA⟩))
    refine Jo fun V hV=>?_;have bK:Below wa.heap.size wa V:=Mv;have hi:Ja9 w V:=Vu;have s0:V.cell? ⟨wa.heap.size+1,0,none⟩=some (.int .i64 0):=U3;have s1:V.cell? ⟨wa.heap.size+1,1,none⟩=some (.int .i64 0):=U3;have s2:V.cell? ⟨wa.heap.size+1,2,none⟩=some (.int .i64 0):=U3;have k0:V.cell? ⟨wa.heap.size,0,none⟩=some (.int .i64 nv):=U3;have k1:V.cell? ⟨wa.heap.size,1,none⟩=some (.int .i64 nc):=U3;have k2:V.cell? ⟨wa.heap.size,2,none⟩=some (.int .i64 nc):=U3;have k3:V.cell? ⟨wa.heap.size,3,none⟩=some (.int .i64 ni):=U3;have k4:V.cell? ⟨wa.heap.size,4,none⟩=some (.int .i64 no):=U3;have p0:V.cell? ⟨w.heap.size,0,none⟩=some (.string p.name):=Ja bK (Ja aA Uq);have p1:V.cell? ⟨w.heap.size,1,none⟩=some (.slice A1 ni c1):=Ja bK (Ja aA Uq);have p2:V.cell? ⟨w.heap.size,2,none⟩=some (.slice A2 no c2):=Ja bK (Ja aA Uq);have p3:V.cell? ⟨w.heap.size,3,none⟩=some (.slice A3 p.locals.length c3):=Ja bK (Ja aA Uq);have p4:V.cell? ⟨w.heap.size,4,none⟩=some (.slice A4 p.eqs.length c4):=Ja bK (Ja aA Uq);have cN:w.heap.size+3<=wa.heap.size:=Ut;have mQ:wa.heap.size+2<=V.heap.size:=Sc;have HI:=Lib.hid hi;have kO:∀b off,A=some ⟨b,off,none⟩->w.heap.size+3<=b:=fun b off h=>by have:=lS b off h;simpa using this
    have yn:=Lib.hid kO;clear lS kO;have ua:=Lib.hid (aY.later bK);have lu:w.heap.size<V.heap.size:=Ua;clear hV hi aZ aY bK aA
    go_upto_region 7 with fail
    refine Jo fun V2 bz=>?_;have aq:Below V.heap.size V V2:=by rw [bz];exact Jc (Below.refl _ _) _
    have m0:V2.cell? ⟨V.heap.size,0,none⟩=some (.int .u32 v):=Uz;have m1:V2.cell? ⟨V.heap.size,1,none⟩=some (.int .u32 0):=Uz;have m2:V2.cell? ⟨V.heap.size,2,none⟩=some (.int .i64 0):=Uz;have m3:V2.cell? ⟨V.heap.size,3,none⟩=some (.int .i64 nv):=Uz;have m4:V2.cell? ⟨V.heap.size,4,none⟩=some (.int .i64 nc):=Uz;have m5:V2.cell? ⟨V.heap.size,5,none⟩=some (.int .i64 nc):=Uz;have m6:V2.cell? ⟨V.heap.size,6,none⟩=some (.int .i64 ni):=Uz;have m7:V2.cell? ⟨V.heap.size,7,none⟩=some (.int .i64 no):=Uz;have m8:V2.cell? ⟨V.heap.size,8,none⟩=some (.slice none 0 0):=Uz;have m9:V2.cell? ⟨V.heap.size,9,none⟩=some (.slice A cl.length cap):=Uz;have m10:V2.cell? ⟨V.heap.size,10,none⟩=some (.slice none 0 0):=Uz;have m11:V2.cell? ⟨V.heap.size,11,none⟩=some (.int .i64 0):=Uz;have m12:V2.cell? ⟨V.heap.size,12,none⟩=some (.int .i64 0):=Uz;have g8:V2.frozen? ⟨V.heap.size,8,none⟩=false:=Uz;have g11:V2.frozen? ⟨V.heap.size,11,none⟩=false:=Uz;have br:V.heap.size<V2.heap.size:=by rw [bz];simp
    replace p0:=Ja aq p0;replace p1:=Ja aq p1;replace p2:=Ja aq p2;replace p3:=Ja aq p3;replace p4:=Ja aq p4;replace k0:=Ja aq k0;replace k1:=Ja aq k1;replace k2:=Ja aq k2;replace k3:=Ja aq k3;replace k4:=Ja aq k4;have mU:=Lib.hid (HI.out.later aq);have pn:=Lib.hid (ua.out.later aq);have po:=Lib.hid ua.out;clear bz aq s0 s1 s2 HI ua
    go_upto_region 8 with (go_at_call 34;go_loud (refine(gR _ mU.out.bel).mono ?_;rintro r wf ⟨⟨vf,rfl,gw⟩,bZ⟩;obtain⟨A5,c5,rfl,ub⟩:=Qc.of_own gw;have n8:=Ja bZ m8;have o8:wf.frozen? ⟨V.heap.size,8,none⟩=false:=(Jf bZ _ _ br).trans g8))
    refine Jo fun V3 dl=>?_;have eq:=bZ.size;have aE:V3.ownsRow V2.heap.size 21 1 (.slice A5 nc c5) nc nu:=Ml;have lT:Hid (J3 V3 cl A cap):=F4;have lQ:Hid (Ja9 w V3):=Ud8;have r0:V3.cell? ⟨V.heap.size,0,none⟩=some (.int .u32 v):=by rw [dl,J5 _ _ _ _ _ Ux];exact Ja bZ m0
    have r1:V3.cell? ⟨V.heap.size,1,none⟩=some (.int .u32 0):=by rw [dl,J5 _ _ _ _ _ Ux];exact Ja bZ m1
    have r2:V3.cell? ⟨V.heap.size,2,none⟩=some (.int .i64 0):=by rw [dl,J5 _ _ _ _ _ Ux];exact Ja bZ m2
    have r3:V3.cell? ⟨V.heap.size,3,none⟩=some (.int .i64 nv):=by rw [dl,J5 _ _ _ _ _ Ux];exact Ja bZ m3
    have r4:V3.cell? ⟨V.heap.size,4,none⟩=some (.int .i64 nc):=by rw [dl,J5 _ _ _ _ _ Ux];exact Ja bZ m4
    have r5:V3.cell? ⟨V.heap.size,5,none⟩=some (.int .i64 nc):=by rw [dl,J5 _ _ _ _ _ Ux];exact Ja bZ m5
    have r6:V3.cell? ⟨V.heap.size,6,none⟩=some (.int .i64 ni):=by rw [dl,J5 _ _ _ _ _ Ux];exact Ja bZ m6
    have r7:V3.cell? ⟨V.heap.size,7,none⟩=some (.int .i64 no):=by rw [dl,J5 _ _ _ _ _ Ux];exact Ja bZ m7
    have r8:V3.cell? ⟨V.heap.size,8,none⟩=some (.slice A5 nc c5):=Dc;have r9:V3.cell? ⟨V.heap.size,9,none⟩=some (.slice A cl.length cap):=by rw [dl,J5 _ _ _ _ _ Ux];exact Ja bZ m9
    have r10:V3.cell? ⟨V.heap.size,10,none⟩=some (.slice none 0 0):=by rw [dl,J5 _ _ _ _ _ Ux];exact Ja bZ m10
    have r11:V3.cell? ⟨V.heap.size,11,none⟩=some (.int .i64 0):=by rw [dl,J5 _ _ _ _ _ Ux];exact Ja bZ m11
    have r12:V3.cell? ⟨V.heap.size,12,none⟩=some (.int .i64 0):=by rw [dl,J5 _ _ _ _ _ Ux];exact Ja bZ m12
    have g11':V3.frozen? ⟨V.heap.size,11,none⟩=false:=Gn;replace k0:V3.cell? ⟨wa.heap.size,0,none⟩=some (.int .i64 nv):=by rw [dl,Qm _ _ _ _ _ _ Ua];exact Ja bZ k0
    replace k1:V3.cell? ⟨wa.heap.size,1,none⟩=some (.int .i64 nc):=by rw [dl,Qm _ _ _ _ _ _ Ua];exact Ja bZ k1
    replace k2:V3.cell? ⟨wa.heap.size,2,none⟩=some (.int .i64 nc):=by rw [dl,Qm _ _ _ _ _ _ Ua];exact Ja bZ k2
    replace k3:V3.cell? ⟨wa.heap.size,3,none⟩=some (.int .i64 ni):=by rw [dl,Qm _ _ _ _ _ _ Ua];exact Ja bZ k3
    replace k4:V3.cell? ⟨wa.heap.size,4,none⟩=some (.int .i64 no):=by rw [dl,Qm _ _ _ _ _ _ Ua];exact Ja bZ k4
    have fe:V2.heap.size<=V3.heap.size:=by rw [dl];simpa using eq
    have kI:V.heap.size<V3.heap.size:=Ua;have iK:=Lib.hid aE;clear dl ub gw gR m0 m1 m2 m3 m4 m5 m6 m7 m8 m9 m10 m11 m12 g8 g11 n8 o8 p0 p1 p2 p3 p4 aE bZ pn mU
    go_upto_region 10 with (go_at_call 35;go_loud (refine(pl A cap _ lT.out).mono ?_;rintro r wj ⟨rfl,dQ⟩;have q11:=Ja dQ r11;have o11:wj.frozen? ⟨V.heap.size,11,none⟩=false:=(Jf dQ _ _ kI).trans g11';have hzj:V.heap.size<wj.heap.size:=(by have:=dQ.size;omega)))
    refine Jo fun V4 eE=>?_;have hzj2:=dQ.size;have cj:V4.ownsRow V2.heap.size 21 1 (.slice A5 nc c5) nc nu:=Fe;have lU:Hid (J3 V4 cl A cap):=Ly;have qP:Hid (Ja9 w V4):=Udq;have t0:V4.cell? ⟨V.heap.size,0,none⟩=some (.int .u32 v):=Udy;have t1:V4.cell? ⟨V.heap.size,1,none⟩=some (.int .u32 0):=Udz;have t2:V4.cell? ⟨V.heap.size,2,none⟩=some (.int .i64 0):=Ud0;have t3:V4.cell? ⟨V.heap.size,3,none⟩=some (.int .i64 nv):=Ud1;have t4:V4.cell? ⟨V.heap.size,4,none⟩=some (.int .i64 nc):=Ud2;have t5:V4.cell? ⟨V.heap.size,5,none⟩=some (.int .i64 nc):=Ud3;have t6:V4.cell? ⟨V.heap.size,6,none⟩=some (.int .i64 ni):=Ud4;have t7:V4.cell? ⟨V.heap.size,7,none⟩=some (.int .i64 no):=Ud5;have t8:V4.cell? ⟨V.heap.size,8,none⟩=some (.slice A5 nc c5):=Ud6;have t9:V4.cell? ⟨V.heap.size,9,none⟩=some (.slice A cl.length cap):=Ud7;have t10:V4.cell? ⟨V.heap.size,10,none⟩=some (.slice none 0 0):=Udw;have t11:V4.cell? ⟨V.heap.size,11,none⟩=some (.int .i64 J.1.2):=Ge;have t12:V4.cell? ⟨V.heap.size,12,none⟩=some (.int .i64 0):=Udx;have qS:V.heap.size<V4.heap.size:=by rw [eE];simp;omega
    have iL:=Lib.hid cj;clear eE r0 r1 r2 r3 r4 r5 r6 r7 r8 r9 r10 r11 r12 g11' cj iK lT lQ pl q11 o11 k0 k1 k2 k3 k4 dQ
    go_upto_region 11 with (go_at_call 36;go_loud (refine(tZ A cap A5 c5 _ (Qc.own2 iL.out) lU.out).mono ?_;rintro r we ⟨⟨Ae,ce,rfl⟩,ef⟩))
    refine Jo fun V5 gy=>?_;have da:Below V4.heap.size V4 V5:=by rw [gy];exact ef
    have bP:=qP.out.later da;have z0:V5.cell? ⟨w.heap.size+1,0,none⟩=some (.int .u32 0):=bP.z 0 _ rfl;have z1:V5.cell? ⟨w.heap.size+1,1,none⟩=some (.int .u32 0):=bP.z 1 _ rfl;have z2:V5.cell? ⟨w.heap.size+1,2,none⟩=some (.int .i64 0):=bP.z 2 _ rfl;have z3:V5.cell? ⟨w.heap.size+1,3,none⟩=some (.int .i64 0):=bP.z 3 _ rfl;have z4:V5.cell? ⟨w.heap.size+1,4,none⟩=some (.int .i64 0):=bP.z 4 _ rfl;have z5:V5.cell? ⟨w.heap.size+1,5,none⟩=some (.int .i64 0):=bP.z 5 _ rfl;have z6:V5.cell? ⟨w.heap.size+1,6,none⟩=some (.int .i64 0):=bP.z 6 _ rfl;have z7:V5.cell? ⟨w.heap.size+1,7,none⟩=some (.int .i64 0):=bP.z 7 _ rfl;have z8:V5.cell? ⟨w.heap.size+1,8,none⟩=some (.slice none 0 0):=bP.z 8 _ rfl;have z9:V5.cell? ⟨w.heap.size+1,9,none⟩=some (.slice none 0 0):=bP.z 9 _ rfl;have z10:V5.cell? ⟨w.heap.size+1,10,none⟩=some (.slice none 0 0):=bP.z 10 _ rfl;have z11:V5.cell? ⟨w.heap.size+1,11,none⟩=some (.int .i64 0):=bP.z 11 _ rfl;have z12:V5.cell? ⟨w.heap.size+1,12,none⟩=some (.int .i64 0):=bP.z 12 _ rfl;have y0:V5.frozen? ⟨w.heap.size+1,0,none⟩=false:=bP.fz 0;have y1:V5.frozen? ⟨w.heap.size+1,1,none⟩=false:=bP.fz 1;have y2:V5.frozen? ⟨w.heap.size+1,2,none⟩=false:=bP.fz 2;have y3:V5.frozen? ⟨w.heap.size+1,3,none⟩=false:=bP.fz 3;have y4:V5.frozen? ⟨w.heap.size+1,4,none⟩=false:=bP.fz 4;have y5:V5.frozen? ⟨w.heap.size+1,5,none⟩=false:=bP.fz 5;have y6:V5.frozen? ⟨w.heap.size+1,6,none⟩=false:=bP.fz 6;have y7:V5.frozen? ⟨w.heap.size+1,7,none⟩=false:=bP.fz 7;have y8:V5.frozen? ⟨w.heap.size+1,8,none⟩=false:=bP.fz 8;have y9:V5.frozen? ⟨w.heap.size+1,9,none⟩=false:=bP.fz 9;have y10:V5.frozen? ⟨w.heap.size+1,10,none⟩=false:=bP.fz 10;have y11:V5.frozen? ⟨w.heap.size+1,11,none⟩=false:=bP.fz 11;have y12:V5.frozen? ⟨w.heap.size+1,12,none⟩=false:=bP.fz 12;have f0:V5.cell? ⟨w.heap.size+1+1,0,none⟩=some (.int .i64 0):=bP.f.1;have f1:V5.cell? ⟨w.heap.size+1+1,1,none⟩=some (.int .i64 0):=bP.f.2.1;have f2:V5.cell? ⟨w.heap.size+1+1,2,none⟩=some (.int .i64 0):=bP.f.2.2;have ff0:V5.frozen? ⟨w.heap.size+1+1,0,none⟩=false:=bP.ff 0;have ff1:V5.frozen? ⟨w.heap.size+1+1,1,none⟩=false:=bP.ff 1;have ff2:V5.frozen? ⟨w.heap.size+1+1,2,none⟩=false:=bP.ff 2;have wK:=Lib.hid bP;have sC:=Lib.hid (Jy iL.out da);have yo:=Lib.hid (lU.out.later da);have x0:V5.cell? ⟨V.heap.size,0,none⟩=some (.int .u32 v):=Ja da t0;have x1:V5.cell? ⟨V.heap.size,1,none⟩=some (.int .u32 0):=Ja da t1;have x2:V5.cell? ⟨V.heap.size,2,none⟩=some (.int .i64 0):=Ja da t2;have x3:V5.cell? ⟨V.heap.size,3,none⟩=some (.int .i64 nv):=Ja da t3;have x4:V5.cell? ⟨V.heap.size,4,none⟩=some (.int .i64 nc):=Ja da t4;have x5:V5.cell? ⟨V.heap.size,5,none⟩=some (.int .i64 nc):=Ja da t5;have x6:V5.cell? ⟨V.heap.size,6,none⟩=some (.int .i64 ni):=Ja da t6;have x7:V5.cell? ⟨V.heap.size,7,none⟩=some (.int .i64 no):=Ja da t7;have x8:V5.cell? ⟨V.heap.size,8,none⟩=some (.slice A5 nc c5):=Ja da t8;have x9:V5.cell? ⟨V.heap.size,9,none⟩=some (.slice A cl.length cap):=Ja da t9;have x10:V5.cell? ⟨V.heap.size,10,none⟩=some (.slice none 0 0):=Ja da t10;have x11:V5.cell? ⟨V.heap.size,11,none⟩=some (.int .i64 J.1.2):=Ja da t11;have x12:V5.cell? ⟨V.heap.size,12,none⟩=some (.int .i64 0):=Ja da t12;clear bP gy da ef qP iL lU
    go_wp2_with fail
    refine bodyPost_ret (v:= .tuple #[.agg #[.int .u32 v,.int .u32 0,.int .i64 0,.int .i64 nv,.int .i64 nc,.int .i64 nc,.int .i64 ni,.int .i64 no,.slice A5 nc c5,.slice A cl.length cap,.slice none 0 0,.int .i64 J.1.2,.int .i64 0],.agg #[.int .i64 0,.int .i64 0,.int .i64 0]]) Fw rfl ⟨⟨⟨A5,c5,A,cap,none,0⟩,by rw [fY.out],?_⟩,?_⟩
    ·have cP:J3 V5 cl A cap:=yo.out;have hfi:=sC.out;refine⟨?_,?_,Jar _⟩
     ·show Qc _ (nuI ((Jq p).map (·.first))) ((Jq p).map (·.first)).length A5 c5;rw [List.length_map,HNU.out,HNC.out];refine Qc.own2 (base:=V2.heap.size) (e:=21) ?_
      repeat (first|(with_reducible exact hfi)|refine Kn ?_ (fun b hb he=>by have:=(hfi.lt b hb).1;omega) _ _)
     ·show J3 _ (Xs p) A cap;rw [mK.out]
      repeat (first|(with_reducible exact cP)|refine J3.off ?_ (fun b off h=>by have:=yn.out b off h;omega) _ _)
    ·repeat (first|(with_reducible exact wK.out.bel)|refine Below.setCell ?_ (show w.heap.size<=w.heap.size+1 by omega) _)
   ·rw [if_pos he];have te:(Ee != 0)=true:=Ta;clear he
    go_enter Tryz.func13,Tryz.ntmps13
    go_upto_region 2 with (go_at_call 8;go_loud (refine(aZ _ Jb).mono ?_;rintro r wa ⟨⟨A,cap,rfl,aY,lS⟩,aA⟩))
    refine Jo fun V hV=>?_;have bK:Below wa.heap.size wa V:=Mv;have hi:Ja9 w V:=Vu;have s0:V.cell? ⟨wa.heap.size+1,0,none⟩=some (.int .i64 0):=U3;have s1:V.cell? ⟨wa.heap.size+1,1,none⟩=some (.int .i64 0):=U3;have s2:V.cell? ⟨wa.heap.size+1,2,none⟩=some (.int .i64 0):=U3;have k0:V.cell? ⟨wa.heap.size,0,none⟩=some (.int .i64 nv):=U3;have k1:V.cell? ⟨wa.heap.size,1,none⟩=some (.int .i64 nc):=U3;have k2:V.cell? ⟨wa.heap.size,2,none⟩=some (.int .i64 nc):=U3;have k3:V.cell? ⟨wa.heap.size,3,none⟩=some (.int .i64 ni):=U3;have k4:V.cell? ⟨wa.heap.size,4,none⟩=some (.int .i64 no):=U3;have p0:V.cell? ⟨w.heap.size,0,none⟩=some (.string p.name):=Ja bK (Ja aA Uq);have p1:V.cell? ⟨w.heap.size,1,none⟩=some (.slice A1 ni c1):=Ja bK (Ja aA Uq);have p2:V.cell? ⟨w.heap.size,2,none⟩=some (.slice A2 no c2):=Ja bK (Ja aA Uq);have p3:V.cell? ⟨w.heap.size,3,none⟩=some (.slice A3 p.locals.length c3):=Ja bK (Ja aA Uq);have p4:V.cell? ⟨w.heap.size,4,none⟩=some (.slice A4 p.eqs.length c4):=Ja bK (Ja aA Uq);have cN:w.heap.size+3<=wa.heap.size:=Ut;have mQ:wa.heap.size+2<=V.heap.size:=Sc;have HI:=Lib.hid hi;have kO:∀b off,A=some ⟨b,off,none⟩->w.heap.size+3<=b:=fun b off h=>by have:=lS b off h;simpa using this
    have yn:=Lib.hid kO;clear lS kO;have ua:=Lib.hid (aY.later bK);have lu:w.heap.size<V.heap.size:=Ua;clear hV hi aZ aY bK aA
    go_upto_region 7 with fail
    refine Jo fun V2 bz=>?_;have aq:Below V.heap.size V V2:=by rw [bz];exact Jc (Below.refl _ _) _
    have m0:V2.cell? ⟨V.heap.size,0,none⟩=some (.int .u32 v):=Uz;have m1:V2.cell? ⟨V.heap.size,1,none⟩=some (.int .u32 0):=Uz;have m2:V2.cell? ⟨V.heap.size,2,none⟩=some (.int .i64 0):=Uz;have m3:V2.cell? ⟨V.heap.size,3,none⟩=some (.int .i64 nv):=Uz;have m4:V2.cell? ⟨V.heap.size,4,none⟩=some (.int .i64 nc):=Uz;have m5:V2.cell? ⟨V.heap.size,5,none⟩=some (.int .i64 nc):=Uz;have m6:V2.cell? ⟨V.heap.size,6,none⟩=some (.int .i64 ni):=Uz;have m7:V2.cell? ⟨V.heap.size,7,none⟩=some (.int .i64 no):=Uz;have m8:V2.cell? ⟨V.heap.size,8,none⟩=some (.slice none 0 0):=Uz;have m9:V2.cell? ⟨V.heap.size,9,none⟩=some (.slice A cl.length cap):=Uz;have m10:V2.cell? ⟨V.heap.size,10,none⟩=some (.slice none 0 0):=Uz;have m11:V2.cell? ⟨V.heap.size,11,none⟩=some (.int .i64 0):=Uz;have m12:V2.cell? ⟨V.heap.size,12,none⟩=some (.int .i64 0):=Uz;have g8:V2.frozen? ⟨V.heap.size,8,none⟩=false:=Uz;have g11:V2.frozen? ⟨V.heap.size,11,none⟩=false:=Uz;have br:V.heap.size<V2.heap.size:=by rw [bz];simp
    replace p0:=Ja aq p0;replace p1:=Ja aq p1;replace p2:=Ja aq p2;replace p3:=Ja aq p3;replace p4:=Ja aq p4;replace k0:=Ja aq k0;replace k1:=Ja aq k1;replace k2:=Ja aq k2;replace k3:=Ja aq k3;replace k4:=Ja aq k4;have mU:=Lib.hid (HI.out.later aq);have pn:=Lib.hid (ua.out.later aq);have po:=Lib.hid ua.out;clear bz aq s0 s1 s2 HI ua
    go_upto_region 8 with (go_at_call 34;go_loud (refine(gR _ mU.out.bel).mono ?_;rintro r wf ⟨⟨vf,rfl,gw⟩,bZ⟩;obtain⟨A5,c5,rfl,ub⟩:=Qc.of_own gw;have n8:=Ja bZ m8;have o8:wf.frozen? ⟨V.heap.size,8,none⟩=false:=(Jf bZ _ _ br).trans g8))
    refine Jo fun V3 dl=>?_;have eq:=bZ.size;have aE:V3.ownsRow V2.heap.size 21 1 (.slice A5 nc c5) nc nu:=Ml;have lT:Hid (J3 V3 cl A cap):=F4;have lQ:Hid (Ja9 w V3):=Ud8;have r0:V3.cell? ⟨V.heap.size,0,none⟩=some (.int .u32 v):=by rw [dl,J5 _ _ _ _ _ Ux];exact Ja bZ m0
    have r1:V3.cell? ⟨V.heap.size,1,none⟩=some (.int .u32 0):=by rw [dl,J5 _ _ _ _ _ Ux];exact Ja bZ m1
    have r2:V3.cell? ⟨V.heap.size,2,none⟩=some (.int .i64 0):=by rw [dl,J5 _ _ _ _ _ Ux];exact Ja bZ m2
    have r3:V3.cell? ⟨V.heap.size,3,none⟩=some (.int .i64 nv):=by rw [dl,J5 _ _ _ _ _ Ux];exact Ja bZ m3
    have r4:V3.cell? ⟨V.heap.size,4,none⟩=some (.int .i64 nc):=by rw [dl,J5 _ _ _ _ _ Ux];exact Ja bZ m4
    have r5:V3.cell? ⟨V.heap.size,5,none⟩=some (.int .i64 nc):=by rw [dl,J5 _ _ _ _ _ Ux];exact Ja bZ m5
    have r6:V3.cell? ⟨V.heap.size,6,none⟩=some (.int .i64 ni):=by rw [dl,J5 _ _ _ _ _ Ux];exact Ja bZ m6
    have r7:V3.cell? ⟨V.heap.size,7,none⟩=some (.int .i64 no):=by rw [dl,J5 _ _ _ _ _ Ux];exact Ja bZ m7
    have r8:V3.cell? ⟨V.heap.size,8,none⟩=some (.slice A5 nc c5):=Dc;have r9:V3.cell? ⟨V.heap.size,9,none⟩=some (.slice A cl.length cap):=by rw [dl,J5 _ _ _ _ _ Ux];exact Ja bZ m9
    have r10:V3.cell? ⟨V.heap.size,10,none⟩=some (.slice none 0 0):=by rw [dl,J5 _ _ _ _ _ Ux];exact Ja bZ m10
    have r11:V3.cell? ⟨V.heap.size,11,none⟩=some (.int .i64 0):=by rw [dl,J5 _ _ _ _ _ Ux];exact Ja bZ m11
    have r12:V3.cell? ⟨V.heap.size,12,none⟩=some (.int .i64 0):=by rw [dl,J5 _ _ _ _ _ Ux];exact Ja bZ m12
    have g11':V3.frozen? ⟨V.heap.size,11,none⟩=false:=Gn;replace k0:V3.cell? ⟨wa.heap.size,0,none⟩=some (.int .i64 nv):=by rw [dl,Qm _ _ _ _ _ _ Ua];exact Ja bZ k0
    replace k1:V3.cell? ⟨wa.heap.size,1,none⟩=some (.int .i64 nc):=by rw [dl,Qm _ _ _ _ _ _ Ua];exact Ja bZ k1
    replace k2:V3.cell? ⟨wa.heap.size,2,none⟩=some (.int .i64 nc):=by rw [dl,Qm _ _ _ _ _ _ Ua];exact Ja bZ k2
    replace k3:V3.cell? ⟨wa.heap.size,3,none⟩=some (.int .i64 ni):=by rw [dl,Qm _ _ _ _ _ _ Ua];exact Ja bZ k3
    replace k4:V3.cell? ⟨wa.heap.size,4,none⟩=some (.int .i64 no):=by rw [dl,Qm _ _ _ _ _ _ Ua];exact Ja bZ k4
    have fe:V2.heap.size<=V3.heap.size:=by rw [dl];simpa using eq
    have kI:V.heap.size<V3.heap.size:=Ua;have iK:=Lib.hid aE;clear dl ub gw gR m0 m1 m2 m3 m4 m5 m6 m7 m8 m9 m10 m11 m12 g8 g11 n8 o8 p0 p1 p2 p3 p4 aE bZ pn mU
    go_upto_region 10 with (go_at_call 35;go_loud (refine(pl A cap _ lT.out).mono ?_;rintro r wj ⟨rfl,dQ⟩;have q11:=Ja dQ r11;have o11:wj.frozen? ⟨V.heap.size,11,none⟩=false:=(Jf dQ _ _ kI).trans g11';have hzj:V.heap.size<wj.heap.size:=(by have:=dQ.size;omega)))
    refine Jo fun V4 eE=>?_;have hzj2:=dQ.size;have cj:V4.ownsRow V2.heap.size 21 1 (.slice A5 nc c5) nc nu:=Fe;have lU:Hid (J3 V4 cl A cap):=Ly;have qP:Hid (Ja9 w V4):=Udq;have t0:V4.cell? ⟨V.heap.size,0,none⟩=some (.int .u32 v):=Udy;have t1:V4.cell? ⟨V.heap.size,1,none⟩=some (.int .u32 0):=Udz;have t2:V4.cell? ⟨V.heap.size,2,none⟩=some (.int .i64 0):=Ud0;have t3:V4.cell? ⟨V.heap.size,3,none⟩=some (.int .i64 nv):=Ud1;have t4:V4.cell? ⟨V.heap.size,4,none⟩=some (.int .i64 nc):=Ud2;have t5:V4.cell? ⟨V.heap.size,5,none⟩=some (.int .i64 nc):=Ud3;have t6:V4.cell? ⟨V.heap.size,6,none⟩=some (.int .i64 ni):=Ud4;have t7:V4.cell? ⟨V.heap.size,7,none⟩=some (.int .i64 no):=Ud5;have t8:V4.cell? ⟨V.heap.size,8,none⟩=some (.slice A5 nc c5):=Ud6;have t9:V4.cell? ⟨V.heap.size,9,none⟩=some (.slice A cl.length cap):=Ud7;have t10:V4.cell? ⟨V.heap.size,10,none⟩=some (.slice none 0 0):=Udw;have t11:V4.cell? ⟨V.heap.size,11,none⟩=some (.int .i64 J.1.2):=Ge;have t12:V4.cell? ⟨V.heap.size,12,none⟩=some (.int .i64 0):=Udx;have qS:V.heap.size<V4.heap.size:=by rw [eE];simp;omega
    have iL:=Lib.hid cj;clear eE r0 r1 r2 r3 r4 r5 r6 r7 r8 r9 r10 r11 r12 g11' cj iK lT lQ pl q11 o11 k0 k1 k2 k3 k4 dQ
    go_upto_region 11 with (go_at_call 36;go_loud (refine(tZ A cap A5 c5 _ (Qc.own2 iL.out) lU.out).mono ?_;rintro r we ⟨⟨Ae,ce,rfl⟩,ef⟩))
    refine Jo fun V5 gy=>?_;have da:Below V4.heap.size V4 V5:=by rw [gy];exact ef
    have bP:=qP.out.later da;have z0:V5.cell? ⟨w.heap.size+1,0,none⟩=some (.int .u32 0):=bP.z 0 _ rfl;have z1:V5.cell? ⟨w.heap.size+1,1,none⟩=some (.int .u32 0):=bP.z 1 _ rfl;have z2:V5.cell? ⟨w.heap.size+1,2,none⟩=some (.int .i64 0):=bP.z 2 _ rfl;have z3:V5.cell? ⟨w.heap.size+1,3,none⟩=some (.int .i64 0):=bP.z 3 _ rfl;have z4:V5.cell? ⟨w.heap.size+1,4,none⟩=some (.int .i64 0):=bP.z 4 _ rfl;have z5:V5.cell? ⟨w.heap.size+1,5,none⟩=some (.int .i64 0):=bP.z 5 _ rfl;have z6:V5.cell? ⟨w.heap.size+1,6,none⟩=some (.int .i64 0):=bP.z 6 _ rfl;have z7:V5.cell? ⟨w.heap.size+1,7,none⟩=some (.int .i64 0):=bP.z 7 _ rfl;have z8:V5.cell? ⟨w.heap.size+1,8,none⟩=some (.slice none 0 0):=bP.z 8 _ rfl;have z9:V5.cell? ⟨w.heap.size+1,9,none⟩=some (.slice none 0 0):=bP.z 9 _ rfl;have z10:V5.cell? ⟨w.heap.size+1,10,none⟩=some (.slice none 0 0):=bP.z 10 _ rfl;have z11:V5.cell? ⟨w.heap.size+1,11,none⟩=some (.int .i64 0):=bP.z 11 _ rfl;have z12:V5.cell? ⟨w.heap.size+1,12,none⟩=some (.int .i64 0):=bP.z 12 _ rfl;have y0:V5.frozen? ⟨w.heap.size+1,0,none⟩=false:=bP.fz 0;have y1:V5.frozen? ⟨w.heap.size+1,1,none⟩=false:=bP.fz 1;have y2:V5.frozen? ⟨w.heap.size+1,2,none⟩=false:=bP.fz 2;have y3:V5.frozen? ⟨w.heap.size+1,3,none⟩=false:=bP.fz 3;have y4:V5.frozen? ⟨w.heap.size+1,4,none⟩=false:=bP.fz 4;have y5:V5.frozen? ⟨w.heap.size+1,5,none⟩=false:=bP.fz 5;have y6:V5.frozen? ⟨w.heap.size+1,6,none⟩=false:=bP.fz 6;have y7:V5.frozen? ⟨w.heap.size+1,7,none⟩=false:=bP.fz 7;have y8:V5.frozen? ⟨w.heap.size+1,8,none⟩=false:=bP.fz 8;have y9:V5.frozen? ⟨w.heap.size+1,9,none⟩=false:=bP.fz 9;have y10:V5.frozen? ⟨w.heap.size+1,10,none⟩=false:=bP.fz 10;have y11:V5.frozen? ⟨w.heap.size+1,11,none⟩=false:=bP.fz 11;have y12:V5.frozen? ⟨w.heap.size+1,12,none⟩=false:=bP.fz 12;have f0:V5.cell? ⟨w.heap.size+1+1,0,none⟩=some (.int .i64 0):=bP.f.1;have f1:V5.cell? ⟨w.heap.size+1+1,1,none⟩=some (.int .i64 0):=bP.f.2.1;have f2:V5.cell? ⟨w.heap.size+1+1,2,none⟩=some (.int .i64 0):=bP.f.2.2;have ff0:V5.frozen? ⟨w.heap.size+1+1,0,none⟩=false:=bP.ff 0;have ff1:V5.frozen? ⟨w.heap.size+1+1,1,none⟩=false:=bP.ff 1;have ff2:V5.frozen? ⟨w.heap.size+1+1,2,none⟩=false:=bP.ff 2;have wK:=Lib.hid bP;have sC:=Lib.hid (Jy iL.out da);have yo:=Lib.hid (lU.out.later da);clear bP gy da ef qP iL lU
    go_wp2_with fail
    refine bodyPost_ret (v:= .tuple #[.agg #[.int .u32 0,.int .u32 0,.int .i64 0,.int .i64 0,.int .i64 0,.int .i64 0,.int .i64 0,.int .i64 0,.slice none 0 0,.slice none 0 0,.slice none 0 0,.int .i64 0,.int .i64 0],.agg #[.int .i64 4,.int .i64 0,.int .i64 Ee]]) Fw rfl ⟨⟨⟨none,0,none,0,none,0⟩,rfl,Jiw _⟩,?_⟩;exact Below.setCell (Below.setCell wK.out.bel (show w.heap.size<=w.heap.size+1+1 by omega) _) (show w.heap.size<=w.heap.size+1+1 by omega) _
 ·have hv:imE p v=(Im.zero,(Xg p).2.2):=by unfold imE;rw [if_pos hf]
  rw [hv]
  have aS:((Xg p).2.2.1 == 0 && (Xg p).2.2.2.1 == 0 && (Xg p).2.2.2.2 == 0)=false:=by
   exact Ub9
  have dp:∀w,(Op.equalIn 10000 34 (.agg #[.int .i64 (Xg p).2.2.1,.int .i64 (Xg p).2.2.2.1,.int .i64 (Xg p).2.2.2.2]) (.agg #[.int .i64 0,.int .i64 0,.int .i64 0])).run Tryz.prog w = .ok false w:=fun w=>by rw [Zr,aS]
  obtain⟨A1,c1,A2,c2,A3,c3,A4,c4⟩:=a;unfold prV fV frT at *;dsimp only at *;generalize (Xg p).2.2.1=k1 at *;generalize (Xg p).2.2.2.1=k2 at *;generalize (Xg p).2.2.2.2=k3 at *;generalize (Xg p).2.1=fr at *;generalize (Xg p).1=cl at *;clear hg hp aw hf aS hv
  go_enter Tryz.func13,Tryz.ntmps13
  go_upto_region 2 with (go_at_call 8;go_loud (refine(aZ _ Jb).mono ?_;rintro r wa ⟨⟨A,cap,rfl,aY,lS⟩,aA⟩))
  refine Jo fun V hV=>?_;have hi:Ja9 w V:=Vu;have s0:V.cell? ⟨wa.heap.size+1,0,none⟩=some (.int .i64 k1):=U3;have s1:V.cell? ⟨wa.heap.size+1,1,none⟩=some (.int .i64 k2):=U3;have s2:V.cell? ⟨wa.heap.size+1,2,none⟩=some (.int .i64 k3):=U3;have cN:w.heap.size+3<=wa.heap.size:=Ut;have z0:V.cell? ⟨w.heap.size+1,0,none⟩=some (.int .u32 0):=hi.z 0 _ rfl;have z1:V.cell? ⟨w.heap.size+1,1,none⟩=some (.int .u32 0):=hi.z 1 _ rfl;have z2:V.cell? ⟨w.heap.size+1,2,none⟩=some (.int .i64 0):=hi.z 2 _ rfl;have z3:V.cell? ⟨w.heap.size+1,3,none⟩=some (.int .i64 0):=hi.z 3 _ rfl;have z4:V.cell? ⟨w.heap.size+1,4,none⟩=some (.int .i64 0):=hi.z 4 _ rfl;have z5:V.cell? ⟨w.heap.size+1,5,none⟩=some (.int .i64 0):=hi.z 5 _ rfl;have z6:V.cell? ⟨w.heap.size+1,6,none⟩=some (.int .i64 0):=hi.z 6 _ rfl;have z7:V.cell? ⟨w.heap.size+1,7,none⟩=some (.int .i64 0):=hi.z 7 _ rfl;have z8:V.cell? ⟨w.heap.size+1,8,none⟩=some (.slice none 0 0):=hi.z 8 _ rfl;have z9:V.cell? ⟨w.heap.size+1,9,none⟩=some (.slice none 0 0):=hi.z 9 _ rfl;have z10:V.cell? ⟨w.heap.size+1,10,none⟩=some (.slice none 0 0):=hi.z 10 _ rfl;have z11:V.cell? ⟨w.heap.size+1,11,none⟩=some (.int .i64 0):=hi.z 11 _ rfl;have z12:V.cell? ⟨w.heap.size+1,12,none⟩=some (.int .i64 0):=hi.z 12 _ rfl;have y0:V.frozen? ⟨w.heap.size+1,0,none⟩=false:=hi.fz 0;have y1:V.frozen? ⟨w.heap.size+1,1,none⟩=false:=hi.fz 1;have y2:V.frozen? ⟨w.heap.size+1,2,none⟩=false:=hi.fz 2;have y3:V.frozen? ⟨w.heap.size+1,3,none⟩=false:=hi.fz 3;have y4:V.frozen? ⟨w.heap.size+1,4,none⟩=false:=hi.fz 4;have y5:V.frozen? ⟨w.heap.size+1,5,none⟩=false:=hi.fz 5;have y6:V.frozen? ⟨w.heap.size+1,6,none⟩=false:=hi.fz 6;have y7:V.frozen? ⟨w.heap.size+1,7,none⟩=false:=hi.fz 7;have y8:V.frozen? ⟨w.heap.size+1,8,none⟩=false:=hi.fz 8;have y9:V.frozen? ⟨w.heap.size+1,9,none⟩=false:=hi.fz 9;have y10:V.frozen? ⟨w.heap.size+1,10,none⟩=false:=hi.fz 10;have y11:V.frozen? ⟨w.heap.size+1,11,none⟩=false:=hi.fz 11;have y12:V.frozen? ⟨w.heap.size+1,12,none⟩=false:=hi.fz 12;have f0:V.cell? ⟨w.heap.size+1+1,0,none⟩=some (.int .i64 0):=hi.f.1;have f1:V.cell? ⟨w.heap.size+1+1,1,none⟩=some (.int .i64 0):=hi.f.2.1;have f2:V.cell? ⟨w.heap.size+1+1,2,none⟩=some (.int .i64 0):=hi.f.2.2;have ff0:V.frozen? ⟨w.heap.size+1+1,0,none⟩=false:=hi.ff 0;have ff1:V.frozen? ⟨w.heap.size+1+1,1,none⟩=false:=hi.ff 1;have ff2:V.frozen? ⟨w.heap.size+1+1,2,none⟩=false:=hi.ff 2;have HI:=Lib.hid hi;clear hV hi aZ
  go_upto_region 3 with fail
  have ar:(fun w':World=>w'.cell? ⟨wa.heap.size+1,0,none⟩=some (.int .i64 k1)/\w'.cell? ⟨wa.heap.size+1,1,none⟩=some (.int .i64 k2)/\w'.cell? ⟨wa.heap.size+1,2,none⟩=some (.int .i64 k3)) V.drew:=⟨s0,s1,s2⟩;dsimp only at ar;refine Kd (fun w'=>w'.cell? ⟨wa.heap.size+1,0,none⟩=some (.int .i64 k1)/\w'.cell? ⟨wa.heap.size+1,1,none⟩=some (.int .i64 k2)/\w'.cell? ⟨wa.heap.size+1,2,none⟩=some (.int .i64 k3)) 3 1 Ug Gd ?_;simp only [List.size_toArray,List.length_cons,List.length_nil,Nat.zero_add,Nat.reduceAdd];refine Ji 0 ar ?_;refine Ji 1 ar ?_;refine Kb 2 ?_;refine Jj fun K hK=>?_;go_simp;refine hK _ _ ⟨ar,Kh Ug ?_⟩;clear hK K
  try simp only [Act.put,sa1,sa2,sa3]
  refine Qx 3 ?_;refine Jj fun K hK=>?_;go_simp;refine hK _ _ ?_;clear hK K
  try simp only [Act.put,sa1,sa2,sa3]
  refine Ki Ug ?_;clear ar
  go_wp2_with fail
  refine bodyPost_ret (v:= .tuple #[.agg #[.int .u32 0,.int .u32 0,.int .i64 0,.int .i64 0,.int .i64 0,.int .i64 0,.int .i64 0,.int .i64 0,.slice none 0 0,.slice none 0 0,.slice none 0 0,.int .i64 0,.int .i64 0],.agg #[.int .i64 k1,.int .i64 k2,.int .i64 k3]]) Fw rfl ⟨⟨⟨none,0,none,0,none,0⟩,rfl,Jiw _⟩,?_⟩;exact Qq _ _ _ (Jd HI.out.bel (Jh (Below.refl _ _))) Ua
end Go.Proofs.YtknfcamdfdfoeaaGreatDoor
namespace Go.Proofs.YtknfcamdfdfoeaaGreatDoor
open Go.RowKit Go.Sort
theorem Jd6 (a b c:Int) (w:World):(Op.equalIn 10000 34 (.agg #[.int .i64 a,.int .i64 b,.int .i64 c]) (.agg #[.int .i64 a,.int .i64 b,.int .i64 c])).run Tryz.prog w = .ok true w:=by
 have hS:Tryz.prog.underlying 34=some (.struct (Tryz.prog.fieldsOf 34)):=Ug;have hp:Tryz.prog.stoodInHeld 34=false:=Ug;rw [show(10000:Nat)=9999+1 from rfl,run_equalIn_agg w 9999 34 _ _ hS hp];simp only [Program.fieldsOf,Tryz.underlying34];exact Uq
def zE:Ex:= .mk 0 0 ⟨#[]⟩ []
def vK (s:ByteArray):Va:=⟨s,1,0,⟨#[]⟩⟩
def eK (s:ByteArray):Ex:= .mk 3 0 s []
theorem Jxm (k:Int) (s:ByteArray) (hk:I64 k) (hs:s.size<=maxLen):(Ex.mk k 0 s []).OK:=by
 unfold Ex.OK;exact⟨hk,Vh,hs,by unfold Ex.OKL;trivial⟩
theorem Joa {W:World} {b:Nat} {s:ByteArray} (c0:W.cell? ⟨b,0,none⟩=some (.string s)) (c1:W.cell? ⟨b,1,none⟩=some (.int .i64 1)) (c2:W.cell? ⟨b,2,none⟩=some (.int .i64 0)) (c3:W.cell? ⟨b,3,none⟩=some (.string ⟨#[]⟩)):Ju W [vK s] (some ⟨b,0,none⟩) 1:=by
 refine⟨Nat.le_refl _,U2,fun _=>⟨b,0,rfl,fun k v hk=>?_⟩⟩
 match k with
 | 0=>
   obtain rfl:vK s=v:=Vw;exact⟨c0,c1,c2,c3⟩
 | k+1=>simp at hk
def pG:Pr:=⟨⟨#[102]⟩,[vK ⟨#[120]⟩],[vK ⟨#[121]⟩],[],[⟨⟨#[121]⟩,0,zE,eK ⟨#[120]⟩⟩]⟩
theorem Jwg:Xg pG=([(6,0),(3,0),(2,0),(3,1),(2,1),(7,0)],(2,0,0,1,1),(0,0,0)):=by decide +kernel
theorem Jw1:(imE pG 3).2=(0,0,0)/\(imE pG 3).1.ver=3/\(imE pG 3).1.sf=6:=by decide +kernel
theorem Jwj:(imE pG 0).2=(4,0,1):=by decide +kernel
theorem Jg2:Q4 pG:=by
 have h1:∀c,(⟨#[c]⟩:ByteArray).size<=maxLen:=fun c=>by unfold maxLen;show 1<=_;omega
 have h0:(⟨#[]⟩:ByteArray).size<=maxLen:=Db;have i0:I64 0:=Vs;have i1:I64 1:=Vs;have i3:I64 3:=Vs;refine⟨h1 _,fun v nI=>?_,fun v nI=>?_,fun v nI=>by simp [pG] at nI,fun q hq=>?_⟩
 ·obtain rfl:v=vK ⟨#[120]⟩:=by simpa [pG] using nI
  exact⟨h1 _,i1,i0,h0⟩
 ·obtain rfl:v=vK ⟨#[121]⟩:=by simpa [pG] using nI
  exact⟨h1 _,i1,i0,h0⟩
 ·obtain rfl:q=⟨⟨#[121]⟩,0,zE,eK ⟨#[120]⟩⟩:=by simpa [pG] using hq
  exact⟨h1 _,i0,Jxm _ _ i0 h0,Jxm _ _ i3 (h1 _)⟩
theorem Jvh {W:World} {b:Nat} (c0:W.cell? ⟨b,0,none⟩=some (.string ⟨#[121]⟩)) (c1:W.cell? ⟨b,1,none⟩=some (.int .i64 0)) (c2:W.cell? ⟨b,2,none⟩=some (.int .i64 0)) (c3:W.cell? ⟨b,3,none⟩=some (.int .i32 0)) (c4:W.cell? ⟨b,4,none⟩=some (.string ⟨#[]⟩)) (c5:W.cell? ⟨b,5,none⟩=some (.slice none 0 0))
  (c6:W.cell? ⟨b,6,none⟩=some (.int .i64 3)) (c7:W.cell? ⟨b,7,none⟩=some (.int .i32 0)) (c8:W.cell? ⟨b,8,none⟩=some (.string ⟨#[120]⟩)) (c9:W.cell? ⟨b,9,none⟩=some (.slice none 0 0)):Jap W [⟨⟨#[121]⟩,0,zE,eK ⟨#[120]⟩⟩] (some ⟨b,0,none⟩) 1:=by
 refine⟨Nat.le_refl _,U2,fun _=>⟨b,0,rfl,fun j q hj=>?_⟩⟩
 match j with
 | 0=>
   obtain rfl:(⟨⟨#[121]⟩,0,zE,eK ⟨#[120]⟩⟩:Qe)=q:=Sg;exact⟨none,0,none,0,c0,c1,c2,c3,c4,c5,c6,c7,c8,c9,Jp9 _ _ _ _,Jp9 _ _ _ _⟩
 | j+1=>simp at hj
theorem Jxg (a b:Int) (w:World):(Op.equalIn 10000 59 (.agg #[.int .i64 a,.int .i32 b]) (.agg #[.int .i64 a,.int .i32 b])).run Tryz.prog w = .ok true w:=by
 have hS:Tryz.prog.underlying 59=some (.struct (Tryz.prog.fieldsOf 59)):=Ug;have hp:Tryz.prog.stoodInHeld 59=false:=Ug;rw [show(10000:Nat)=9999+1 from rfl,run_equalIn_agg w 9999 59 _ _ hS hp];simp only [Program.fieldsOf,Tryz.underlying59];exact Uq
theorem Jra (a b c d e:Int) (w:World):(Op.equalIn 10000 31 (.agg #[.int .i64 a,.int .i64 b,.int .i64 c,.int .i64 d,.int .i64 e]) (.agg #[.int .i64 a,.int .i64 b,.int .i64 c,.int .i64 d,.int .i64 e])).run Tryz.prog w = .ok true w:=by
 have hS:Tryz.prog.underlying 31=some (.struct (Tryz.prog.fieldsOf 31)):=Ug;have hp:Tryz.prog.stoodInHeld 31=false:=Ug;rw [show(10000:Nat)=9999+1 from rfl,run_equalIn_agg w 9999 31 _ _ hS hp];simp only [Program.fieldsOf,Tryz.underlying31];exact Uq
theorem Jqw (w:World) (hg:Ql w):Calls Tryz.prog 6 #[] w fun r w'=>r = .returned (.bool true)/\Below w.heap.size w w':=by
 have h1:=fun b1 b2 b3 W hg hp=>Jof pG ⟨some ⟨b1,0,none⟩,1,some ⟨b2,0,none⟩,1,none,0,some ⟨b3,0,none⟩,1⟩ W hg hp Jg2 Dj Dj Dj Dj;have h2:=fun b1 b2 b3 W hg hp=>Jiy pG ⟨some ⟨b1,0,none⟩,1,some ⟨b2,0,none⟩,1,none,0,some ⟨b3,0,none⟩,1⟩ 3 W hg hp Jg2 Dj Dj Dj Dj Ua;have h3:=fun b1 b2 b3 W hg hp=>Jiy pG ⟨some ⟨b1,0,none⟩,1,some ⟨b2,0,none⟩,1,none,0,some ⟨b3,0,none⟩,1⟩ 0 W hg hp Jg2 Dj Dj Dj Dj Ua;rw [Jwg] at h1;obtain⟨e1,e2,e3⟩:=Jw1;rw [e1] at h2;rw [Jwj] at h3;generalize (imE pG 3).1=M at *;generalize (imE pG 0).1=M0 at *;obtain⟨mv,mf,me,⟨ma,mb,mc,md,mg⟩,mfirst,mstep,mmove,msf,mmf⟩:=M;obtain⟨mv0,mf0,me0,⟨ma0,mb0,mc0,md0,mg0⟩,mfirst0,mstep0,mmove0,msf0,mmf0⟩:=M0;dsimp only at e2 e3;subst e2 e3
 have zo:=fun(b1 b2 b3:Nat) (W:World) (x1:Ju W [vK ⟨#[120]⟩] (some ⟨b1,0,none⟩) 1) (x2:Ju W [vK ⟨#[121]⟩] (some ⟨b2,0,none⟩) 1) (x3:Jap W [⟨⟨#[121]⟩,0,zE,eK ⟨#[120]⟩⟩] (some ⟨b3,0,none⟩) 1)=>
  (⟨x1,x2,Jv2 _,x3⟩:Kr W pG ⟨some ⟨b1,0,none⟩,1,some ⟨b2,0,none⟩,1,none,0,some ⟨b3,0,none⟩,1⟩)
 have zp:=Lib.hid zo;unfold prV fV at h1 h2 h3;unfold frT at h1;unfold imV at h2 h3;dsimp only [pG,vK,List.length_cons,List.length_nil] at h1 h2 h3;have hfq1:=fun w=>Jd6 0 0 0 w;have ri:=fun w=>Jd6 4 0 1 w;have zq:=fun w=>Jxg 3 1 w;have uf:=fun w=>Jra 2 0 0 1 1 w;have fM:Tryz.prog.eqGuardType Tryz.prog.depth 34=false:=Ug;have hgm2:Tryz.prog.eqGuardType Tryz.prog.depth 59=false:=Ug;have hgm3:Tryz.prog.eqGuardType Tryz.prog.depth 31=false:=Ug;clear e1 zo
 go_enter Tryz.func6,Tryz.ntmps6
 go_upto_region 3 with fail
 refine Jo fun V hV=>?_;have bK:Below w.heap.size w V:=by rw [hV];exact Jb
 have p0:V.cell? ⟨w.heap.size+1+1+1+1,0,none⟩=some (.string ⟨#[102]⟩):=U3;have p1:V.cell? ⟨w.heap.size+1+1+1+1,1,none⟩=some (.slice (some ⟨w.heap.size+1,0,none⟩) 1 1):=U3;have p2:V.cell? ⟨w.heap.size+1+1+1+1,2,none⟩=some (.slice (some ⟨w.heap.size+1+1,0,none⟩) 1 1):=U3;have p3:V.cell? ⟨w.heap.size+1+1+1+1,3,none⟩=some (.slice none 0 0):=U3;have p4:V.cell? ⟨w.heap.size+1+1+1+1,4,none⟩=some (.slice (some ⟨w.heap.size+1+1+1,0,none⟩) 1 1):=U3
 have hp:Kr V pG ⟨some ⟨w.heap.size+1,0,none⟩,1,some ⟨w.heap.size+1+1,0,none⟩,1,none,0,some ⟨w.heap.size+1+1+1,0,none⟩,1⟩:=by
  rw [hV];exact zp.out _ _ _ _ (Joa Uq Uq Uq Uq) (Joa Uq Uq Uq Uq) (Jvh Uq Uq Uq Uq Uq Uq Uq Uq Uq Uq)
 have H1:=Lib.hid (fun W (hb:Below V.heap.size V W)=>h1 _ _ _ W (hg.later (Jd bK hb)) (hp.later hb));have H2:=Lib.hid (fun W (hb:Below V.heap.size V W)=>h2 _ _ _ W (hg.later (Jd bK hb)) (hp.later hb));have H3:=Lib.hid (fun W (hb:Below V.heap.size V W)=>h3 _ _ _ W (hg.later (Jd bK hb)) (hp.later hb));have mQ:w.heap.size+5<=V.heap.size:=Sc;clear hV hp h1 h2 h3 zp
 go_upto_region 4 with (go_at_call 8;go_loud (refine(H1.out _ (Below.refl _ _)).mono ?_;rintro r w1 ⟨⟨A,cap,rfl,aY,-⟩,ac⟩))
 obtain⟨b,off,rfl,aH,y0,y1⟩:=aY.get (k:=3) (x:=(3,1)) rfl;refine Jo fun V1 dq=>?_;have fk:Below w1.heap.size w1 V1:=by rw [dq];exact Jc (Jc (Below.refl _ _) _) _
 have iR:Below V.heap.size V V1:=Jd ac fk;have k0:V1.cell? ⟨w1.heap.size,0,none⟩=some (.int .i64 2):=Vd;have k1:V1.cell? ⟨w1.heap.size,1,none⟩=some (.int .i64 0):=Vd;have k2:V1.cell? ⟨w1.heap.size,2,none⟩=some (.int .i64 0):=Vd;have k3:V1.cell? ⟨w1.heap.size,3,none⟩=some (.int .i64 1):=Vd;have k4:V1.cell? ⟨w1.heap.size,4,none⟩=some (.int .i64 1):=Vd;have s0:V1.cell? ⟨w1.heap.size+1,0,none⟩=some (.int .i64 0):=Vd;have s1:V1.cell? ⟨w1.heap.size+1,1,none⟩=some (.int .i64 0):=Vd;have s2:V1.cell? ⟨w1.heap.size+1,2,none⟩=some (.int .i64 0):=Vd;replace y0:=Ja fk y0;replace y1:=Ja fk y1;replace p0:=Ja iR p0;replace p1:=Ja iR p1;replace p2:=Ja iR p2;replace p3:=Ja iR p3;replace p4:=Ja iR p4;clear dq fk aY ac H1
 go_upto_region 5 with (go_at_call 13;go_loud (refine(H2.out _ iR).mono ?_;rintro r w2 ⟨⟨ia,rfl,-⟩,aq⟩))
 refine Jo fun V2 bz=>?_;have fk:Below w2.heap.size w2 V2:=by rw [bz];exact Jc (Jc (Below.refl _ _) _) _
 have eW:Below V1.heap.size V1 V2:=Jd aq fk;have i0:V2.cell? ⟨w2.heap.size,0,none⟩=some (.int .u32 3):=Uz;have i11:V2.cell? ⟨w2.heap.size,11,none⟩=some (.int .i64 6):=Uz;have q0:V2.cell? ⟨w2.heap.size+1,0,none⟩=some (.int .i64 0):=Uz;have q1:V2.cell? ⟨w2.heap.size+1,1,none⟩=some (.int .i64 0):=Uz;have q2:V2.cell? ⟨w2.heap.size+1,2,none⟩=some (.int .i64 0):=Uz;replace y0:=Ja eW y0;replace y1:=Ja eW y1;replace k0:=Ja eW k0;replace k1:=Ja eW k1;replace k2:=Ja eW k2;replace k3:=Ja eW k3;replace k4:=Ja eW k4;replace s0:=Ja eW s0;replace s1:=Ja eW s1;replace s2:=Ja eW s2;replace p0:=Ja eW p0;replace p1:=Ja eW p1;replace p2:=Ja eW p2;replace p3:=Ja eW p3;replace p4:=Ja eW p4;clear bz fk aq H2
 go_upto_region 6 with (go_at_call 13;go_loud (refine(H3.out _ (Jd iR eW)).mono ?_;rintro r w3 ⟨⟨ib,rfl,-⟩,aM⟩))
 refine Jo fun V3 dl=>?_;have fk:Below w3.heap.size w3 V3:=by rw [dl];exact Jc (Jc (Below.refl _ _) _) _
 have fs:Below V2.heap.size V2 V3:=Jd aM fk;have x0:V3.cell? ⟨w3.heap.size+1,0,none⟩=some (.int .i64 4):=by rw [dl];go_simp
 have x1:V3.cell? ⟨w3.heap.size+1,1,none⟩=some (.int .i64 0):=by rw [dl];go_simp
 have x2:V3.cell? ⟨w3.heap.size+1,2,none⟩=some (.int .i64 1):=by rw [dl];go_simp
 replace y0:=Ja fs y0;replace y1:=Ja fs y1;replace k0:=Ja fs k0;replace k1:=Ja fs k1;replace k2:=Ja fs k2;replace k3:=Ja fs k3;replace k4:=Ja fs k4;replace s0:=Ja fs s0;replace s1:=Ja fs s1;replace s2:=Ja fs s2;replace i0:=Ja fs i0;replace i11:=Ja fs i11;replace q0:=Ja fs q0;replace q1:=Ja fs q1;replace q2:=Ja fs q2;have jh:=Jd bK (Jd iR (Jd eW fs));clear dl fk aM H3 p0 p1 p2 p3 p4 bK iR eW fs
 go_wp2_with fail
 go_ret;exact⟨rfl,jh⟩
def Jc6 (p:Pr) (w:World) (r:Ending) (w':World):Prop:=(∃v,r = .returned (.tuple #[v,frT (Xg p).2.1,fV (Xg p).2.2])/\w'.ownsRow w.heap.size 59 2 v (Xg p).1.length (cdC (Xg p).1))/\Below w.heap.size w w'
theorem Jc6.yes {p:Pr} {w w':World} {r:Ending} (h:(Kf p).2=(0,0,0)) (hc:Jgs p w r w'):Jc6 p w r w':=by
 obtain⟨hc,ab⟩:=hc;refine⟨?_,ab⟩;unfold Xg;rw [if_pos h]
 by_cases h6:600<(Xs p).length
 ·rw [if_pos h6] at hc;rw [if_pos h6];exact⟨_,hc,World.ownsRow_nil _ _ _ _⟩
 ·rw [if_neg h6] at hc;rw [if_neg h6];obtain⟨v,hr,ae⟩:=hc;exact⟨v,hr,ae⟩
theorem Jc6.no {p:Pr} {w w':World} {r:Ending} (h:(Kf p).2≠(0,0,0)) (hc:r = .returned (.tuple #[.slice none 0 0,Jme,fV (Kf p).2])/\Below w.heap.size w w'):Jc6 p w r w':=by
 obtain⟨hr,ab⟩:=hc;refine⟨?_,ab⟩;unfold Xg;rw [if_neg h];exact⟨_,hr,World.ownsRow_nil _ _ _ _⟩
theorem Jv8 (p:Pr) (a:PrA) (w:World) (hg:Ql w) (hp:Kr w p a) (aw:Q4 p) (n1:p.ins.length<=1000000) (n2:p.outs.length<=1000000) (n3:p.locals.length<=1000000) (n4:p.eqs.length<=1000000) :
  Calls Tryz.prog 8 #[prV p a] w (Jc6 p w):=by
 by_cases h:(Kf p).2=(0,0,0)
 ·obtain⟨hS,hb⟩:=Jbb h;exact(Jo3 p a w hg hp aw n1 n2 n3 n4 hS hb).mono fun r w' hc=>Jc6.yes h hc
 ·exact(Jrb p a w hg hp aw n1 n2 n3 n4 h).mono fun r w' hc=>Jc6.no h hc
theorem Jt8 (p:Pr) (a:PrA) (w:World) (hp:Kr w p a) (aw:Q4 p) (n1:p.ins.length<=1000000) (n2:p.outs.length<=1000000) (n3:p.locals.length<=1000000) (n4:p.eqs.length<=1000000) :
  Calls Tryz.prog 9 #[prV p a] w (Jc6 p w):=by
 by_cases h:(Kf p).2=(0,0,0)
 ·obtain⟨hS,hb⟩:=Jbb h;exact(Jup p a w hp aw n1 n2 n3 n4 hS hb).mono fun r w' hc=>Jc6.yes h hc
 ·exact(Jw2 p a w hp aw n1 n2 n3 n4 h).mono fun r w' hc=>Jc6.no h hc
theorem Jqh (l:List (Int×Int)) (A:Option Addr) (cap:Nat) (B:Option Addr) (capB:Nat) (w:World) (h1:J3 w l A cap) (h2:J3 w l B capB) :
  Calls Tryz.prog 10 #[.slice A l.length cap,.slice B l.length capB] w fun r w'=>r = .returned (.bool true)/\Below w.heap.size w w':=by
 have l1:=h1.1;have l2:=h2.1;have m1:=h1.2.1;have m2:=h2.2.1;unfold maxLen at m1 m2;have fM:Tryz.prog.eqGuardType Tryz.prog.depth 59=false:=Ug
 go_enter Tryz.func10,Tryz.ntmps10
 go_wp2_with fail
 go_loopw [5] (fun i wr=>∃(k:Nat),k<=l.length/\i = .int .i64 k/\Below w.heap.size w wr) (fun i _=>l.length-(intOf i).toNat)
 case atStart=>exact⟨0,Nat.zero_le _,rfl,Below.refl _ _⟩
 case round=>
  obtain⟨k,hk,rfl,ab⟩:=hrel
  by_cases am:k<l.length
  ·have hx:l[k]?=some l[k]:=List.getElem?_eq_getElem am;generalize l[k]=x at hx;have aY:=Joi l k x hx;obtain⟨b,off,rfl,cB⟩:=(h1.later ab).2.2.2 Ua;obtain⟨b2,off2,rfl,oP⟩:=(h2.later ab).2.2.2 Ua;have d0:=cB _ _ aY.1;have d1:wr.cell? ⟨b,off+k * 2+1,none⟩=some (.int .i32 x.2):=cB _ _ aY.2;have e0:=oP _ _ aY.1;have e1:wr.cell? ⟨b2,off2+k * 2+1,none⟩=some (.int .i32 x.2):=oP _ _ aY.2;obtain⟨x1,x2⟩:=x;dsimp only at d0 d1 e0 e1;have dp:=fun w=>Jxg x1 x2 w;have aH:=block_lt_of_cell d0;have bG:=block_lt_of_cell e0;clear hx aY cB oP
   go_wp2_with fail
   go_quiet (fail)
   go_wp2_with fail
   go_roundw
   case rel=>exact⟨k+1,Ua,Up,J8 ab _⟩
   case measure=>simp [intOf];omega
  ·obtain rfl:k=l.length:=Ua
   go_wp2_with fail
   go_ret;exact⟨rfl,ab⟩
theorem Jub (B:Nat) (v:Value) (l:List (Int×Int)) (w:World) (h:w.ownsRow B 59 2 v l.length (cdC l)) :
  Calls Tryz.prog 12 #[v] w fun r w'=>r = .returned (.tuple #[])/\w.grownBy w' v.ownBlock:=by
 obtain⟨A,cap,rfl,ak,dm⟩:=Jv h;unfold maxLen at dm;have hl:=Jma l
 by_cases h0:0<l.length
 ·obtain⟨g,c',hv,hg,am,h1,h2,cB⟩:=Kc h h0;injection hv with e1 e2 e3;subst e1 e3;have eh:=h.frozenAt;have ev:∀j,j<l.length * 2->∃u,w.cell? ⟨g,j,none⟩=some u:=fun j hj=>⟨_,cB j _ (List.getElem?_eq_getElem Ua)⟩;have rk:=Lib.hid ev;have HFZ:=Lib.hid eh;clear ev cB eh h hl
  go_enter Tryz.func12,Tryz.ntmps12
  go_wp2_with fail
  go_loopw [2] (fun i wr=>∃(k:Nat),k<=l.length/\i = .int .i64 k/\Hid (w.grownBy wr (some g))/\Hid (∀j,j<l.length * 2->∃u,wr.cell? ⟨g,j,none⟩=some u)/\Hid (∀j,wr.frozen? ⟨g,j,none⟩=false)) (fun i _=>l.length-(intOf i).toNat)
  case atStart=>exact⟨0,Nat.zero_le _,rfl,Lib.hid (Zj _ _),rk,HFZ⟩
  case round=>
   clear rk HFZ;obtain⟨k,hk,rfl,bB,et,eh⟩:=hrel
   by_cases dO:k<l.length
   ·obtain⟨u0,c0⟩:=et.out (k * 2) Ua;obtain⟨u1,c1⟩:=et.out (k * 2+1) Ua;have f0:=eh.out (k * 2);have f1:=eh.out (k * 2+1)
    go_wp2_with fail
    go_roundw
    case rel=>
     refine⟨k+1,Ua,Up,Lib.hid (Jpn (Jpn bB.out _ _) _ _),Lib.hid fun j hj=>?_,Lib.hid fun j=>?_⟩
     ·obtain⟨u,hu⟩:=et.out j hj
      by_cases j1:j=k * 2+1
      ·subst j1;exact⟨_,World.cell?_setCell_same _ _ _ (by rw [J5 _ _ _ _ _ Ua];exact c1)⟩
      ·by_cases j0:j=k * 2
       ·subst j0;exact⟨_,by rw [J5 _ _ _ _ _ j1];exact World.cell?_setCell_same _ _ _ c0⟩
       ·exact⟨u,by rw [J5 _ _ _ _ _ j1,J5 _ _ _ _ _ j0];exact hu⟩
     ·rw [World.frozen?_setCell,World.frozen?_setCell];exact eh.out j
    case measure=>simp [intOf];omega
   ·obtain rfl:k=l.length:=Ua
    go_wp2_with fail
    go_end0
    exact⟨rfl,bB.out⟩
 ·obtain⟨n,hn⟩:∃n,n=l.length:=⟨_,rfl⟩;rw [<-hn] at h0 ak hl ⊢;obtain rfl:n=0:=Ua;clear hn h hl ak
  go_enter Tryz.func12,Tryz.ntmps12
  go_wp2_with fail
  go_loopw [2] (fun i wr=>i = .int .i64 0/\wr=w) (fun _ _=>0)
  case atStart=>exact⟨rfl,rfl⟩
  case round=>
   obtain⟨rfl,rfl⟩:=hrel
   go_wp2_with fail
   go_end0
   exact⟨rfl,Zj _ _⟩
end Go.Proofs.YtknfcamdfdfoeaaGreatDoor
