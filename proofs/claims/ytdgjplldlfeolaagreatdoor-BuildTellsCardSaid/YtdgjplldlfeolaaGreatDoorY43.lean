/- Lemmas. -/
import Derived.Test.YtdgjplldlfeolaaGreatDoorMac
import Derived.Test.YtdgjplldlfeolaaGreatDoorY37
import Derived.Test.YtdgjplldlfeolaaGreatDoorY38
import Derived.Test.YtdgjplldlfeolaaGreatDoorY36
import Derived.Test.YtdgjplldlfeolaaGreatDoorY26
set_option linter.unusedVariables false
set_option linter.unusedSimpArgs false
set_option maxRecDepth 100000
set_option maxHeartbeats 64000000
namespace Go.Proofs.YtdgjplldlfeolaaGreatDoor
open Go.RowKit Go.Sort Go.Maps Go.ChangeMaps Go.WideMaps
def frT (x:Int×Int×Int×Int×Int):Value:= .agg #[.int .i64 x.1,.int .i64 x.2.1,.int .i64 x.2.2.1,.int .i64 x.2.2.2.1,.int .i64 x.2.2.2.2]
theorem Jbb {p:Pr} (h:(Kf p).2=(0,0,0)):Ks p=(0,0,0)/\¬16<(Jq p).length:=by
 unfold Kf at h
 by_cases hs:Ks p=(0,0,0)
 ·rw [if_pos hs] at h;refine⟨hs,fun hb=>?_⟩;rw [if_pos hb] at h;exact absurd (show((4:Int),(0:Int),(3:Int))=(0,0,0) from h) Ug
 ·rw [if_neg hs] at h;exact absurd h hs
theorem Jof (p:Pr) (a:PrA) (w:World) (hg:Ql w) (hp:Kr w p a) (aw:Ke5 p) (n1:p.ins.length<=1000000) (n2:p.outs.length<=1000000) (n3:p.locals.length<=1000000) (n4:p.eqs.length<=1000000) :
  Calls Tryz.prog 72 #[prV p a] w fun r w'=>(∃A cap,r = .returned (.tuple #[.slice A (Xg p).1.length cap,frT (Xg p).2.1,fV (Xg p).2.2])/\Kos w' (Xg p).1 A cap/\∀b off,A=some ⟨b,off,none⟩->w.heap.size<=b)/\Below w.heap.size w w':=by
 by_cases h:(Kf p).2=(0,0,0)
 ·obtain⟨hS,hb⟩:=Jbb h;refine(Jo3 p a w hg hp aw n1 n2 n3 n4 hS hb).mono ?_;rintro r w' ⟨hc,ab⟩;refine⟨?_,ab⟩;unfold Xg;rw [if_pos h]
  by_cases h6:600<(Xs p).length
  ·rw [if_pos h6] at hc;rw [if_pos h6];exact⟨none,0,hc,Jar _,fun b off h=>by cases h⟩
  ·rw [if_neg h6] at hc;rw [if_neg h6];obtain⟨v,hr,ae⟩:=hc;obtain⟨A,cap,rfl,aY⟩:=Kos.of_own ae;exact⟨A,cap,hr,aY,fun b off h=>(ae.lt b (by rw [h];rfl)).1⟩
 ·refine(Jrb p a w hg hp aw n1 n2 n3 n4 h).mono ?_;rintro r w' ⟨hr,ab⟩;refine⟨?_,ab⟩;unfold Xg;rw [if_neg h];exact⟨none,0,hr,Jar _,fun b off h=>by cases h⟩
theorem Jos (m:Im) (a:ImA) (w:World) (hm:Jd5 w m a) (aw:Jsj m) :
  Calls Tryz.prog 12 #[imV m a] w fun r w'=>(∃A cap,r = .returned (.tuple #[.slice A (Jdl m).1.length cap,.int .i64 (Jdl m).2]))/\Below w.heap.size w w':=by
 have aN:=fun W (h:Below w.heap.size w W)=>Jqe m a W (hm.later h) aw
 by_cases hw:m.wrong=0
 ·have hl:=fun W (h:Below w.heap.size w W)=>Juu m a W (hm.later h) aw (Im.right hw);rw [hw] at aN
  by_cases hb:2016<(Jba m).length
  ·have hv:Jdl m=([],3):=by unfold Jdl;rw [if_neg (fun h=>h hw),if_pos hb]
   have tb:(2016:Int)<((Jba m).length:Int):=Ua;rw [hv];obtain⟨A1,c1,A2,c2,A3,c3⟩:=a;unfold imV at *;dsimp only at *;generalize (Jba m).length=n at *;clear hm aw hw hb hv
   go_enter Tryz.func12,Tryz.ntmps12
   go_wp2_with (first
    | (go_at_call 14;go_loud (refine(aN _ Jb).mono ?_;rintro r w1 ⟨rfl,ac⟩;have k0:=Jg ac))
    | (go_at_call 30;go_loud (refine(hl _ Jb).mono ?_;rintro r w2 ⟨⟨A,cap,rfl,-⟩,aq⟩)))
   go_ret2
   exact⟨⟨none,0,rfl⟩,Jb⟩
  ·have hv:Jdl m=(Jba m,0):=by unfold Jdl;rw [if_neg (fun h=>h hw),if_neg hb]
   have tb:¬(2016:Int)<((Jba m).length:Int):=Ua;rw [hv];obtain⟨A1,c1,A2,c2,A3,c3⟩:=a;unfold imV at *;dsimp only at *;generalize (Jba m).length=n at *;clear hm aw hw hb hv
   go_enter Tryz.func12,Tryz.ntmps12
   go_wp2_with (first
    | (go_at_call 14;go_loud (refine(aN _ Jb).mono ?_;rintro r w1 ⟨rfl,ac⟩;have k0:=Jg ac))
    | (go_at_call 30;go_loud (refine(hl _ Jb).mono ?_;rintro r w2 ⟨⟨A,cap,rfl,-⟩,aq⟩)))
   go_ret2
   exact⟨⟨A,cap,rfl⟩,Jb⟩
 ·have hv:Jdl m=([],m.wrong):=by unfold Jdl;rw [if_pos hw]
  have tw:(m.wrong != 0)=true:=by simpa using hw
  rw [hv];obtain⟨A1,c1,A2,c2,A3,c3⟩:=a;unfold imV at *;dsimp only at *;generalize m.wrong=e at *;clear hm aw hw hv
  go_enter Tryz.func12,Tryz.ntmps12
  go_wp2_with (go_at_call 14;go_loud (refine(aN _ Jb).mono ?_;rintro r w1 ⟨rfl,ac⟩))
  go_ret2
  exact⟨⟨none,0,rfl⟩,Jb⟩
theorem Jry {W:World} {b o:Nat} {v:Value} (h:W.cell? ⟨b,o,none⟩=some v):W.setCell ⟨b,o,none⟩ v=W:=by
 exact T7
theorem Jiw (W:World):Jd5 W Im.zero ⟨none,0,none,0,none,0⟩:=⟨Qc.nil _,Jar _,Jar _⟩
theorem Kos.set {V W:World} {l:List (Int×Int)} {A:Option Addr} {cap:Nat} (h0:Kos V l A cap) (h:Kos W l A cap) {g:Nat} (hg:V.heap.size<=g) (o:Nat) (u:Value):Kos (W.setCell ⟨g,o,none⟩ u) l A cap:=by
 refine⟨h.1,h.2.1,h.2.2.1,fun hm=>?_⟩;obtain⟨b,off,hA,hc⟩:=h.2.2.2 hm;obtain⟨b',off',lL,hc'⟩:=h0.2.2.2 hm;rw [hA] at lL;simp only [Option.some.injEq,Addr.mk.injEq] at lL;have aH:=lL.1;refine⟨b,off,hA,fun j u hj=>(Qm _ _ _ _ _ _ ?_).trans (hc j u hj)⟩;have am:b'<V.heap.size:=Nu (hc' j u hj);exact Ua
theorem Kos.off {W:World} {l:List (Int×Int)} {A:Option Addr} {cap:Nat} (h:Kos W l A cap) {g:Nat} (hg:∀b off,A=some ⟨b,off,none⟩->b≠g) (o:Nat) (u:Value):Kos (W.setCell ⟨g,o,none⟩ u) l A cap:=by
 refine⟨h.1,h.2.1,h.2.2.1,fun hm=>?_⟩;obtain⟨b,off,hA,hc⟩:=h.2.2.2 hm;exact⟨b,off,hA,fun j u hj=>(Qm _ _ _ _ _ _ (hg b off hA)).trans (hc j u hj)⟩
def zIm:List Value:=[.int .u32 0,.int .u32 0,.int .i64 0,.int .i64 0,.int .i64 0,.int .i64 0,.int .i64 0,.int .i64 0,.slice none 0 0,.slice none 0 0,.slice none 0 0,.int .i64 0,.int .i64 0]
structure Ja9 (w W:World):Prop where
 bel:Below w.heap.size w W
 z:∀(o:Nat) (u:Value),zIm[o]?=some u->W.cell? ⟨w.heap.size+1,o,none⟩=some u
 fz:∀o,W.frozen? ⟨w.heap.size+1,o,none⟩=false
 f:W.cell? ⟨w.heap.size+1+1,0,none⟩=some (.int .i64 0)/\W.cell? ⟨w.heap.size+1+1,1,none⟩=some (.int .i64 0)/\W.cell? ⟨w.heap.size+1+1,2,none⟩=some (.int .i64 0)
 ff:∀o,W.frozen? ⟨w.heap.size+1+1,o,none⟩=false
 lt:w.heap.size+3<=W.heap.size
theorem Ja9.later {w W W':World} (h:Ja9 w W) (hb:Below W.heap.size W W'):Ja9 w W':=by
 have hl:=h.lt;exact⟨Jd h.bel hb,fun o u ho=>Ja hb (h.z o u ho),fun o=>(Jf hb _ _ Ua).trans (h.fz o),⟨Ja hb h.f.1,Ja hb h.f.2.1,Ja hb h.f.2.2⟩,fun o=>(Jf hb _ _ Ua).trans (h.ff o),Ds⟩
theorem Ja9.set {w W:World} (h:Ja9 w W) {b:Nat} (hb:w.heap.size+3<=b) (o:Nat) (u:Value):Ja9 w (W.setCell ⟨b,o,none⟩ u):=
 ⟨Below.setCell h.bel (show w.heap.size<=b by omega) _,fun o' u' ho=>(Qm _ _ _ _ _ _ Ua).trans (h.z o' u' ho),fun o'=>(World.frozen?_setCell ..).trans (h.fz o'),⟨(Qm _ _ _ _ _ _ Ua).trans h.f.1,(Qm _ _ _ _ _ _ Ua).trans h.f.2.1,(Qm _ _ _ _ _ _ Ua).trans h.f.2.2⟩,fun o'=>(World.frozen?_setCell ..).trans (h.ff o'),by simpa using h.lt⟩
theorem Ja9.new (w:World) (p:Array Value) (t:TypeId) (t2 t3:TypeId):Ja9 w (((w.alloc (.cells p t)).alloc (.cells zIm.toArray t2)).alloc (.cells #[.int .i64 0,.int .i64 0,.int .i64 0] t3)):=by
 have e1:(w.alloc (.cells p t)).heap.size=w.heap.size+1:=Uh;have e2:((w.alloc (.cells p t)).alloc (.cells zIm.toArray t2)).heap.size=w.heap.size+1+1:=Uh;refine⟨Jb,fun o u ho=>?_,fun o=>Uc,⟨Uc,Uc,Uc⟩,fun o=>Uc,Uh⟩;have h1:=Kw (w.alloc (.cells p t)) zIm.toArray t2 o;rw [e1] at h1;exact J4 (h1.trans (by simpa using ho))
theorem Jvd {p:Pr} (h:(Xg p).2.2=(0,0,0)):Ks p=(0,0,0)/\¬16<(Jq p).length/\¬600<(Xs p).length/\Xg p=(Xs p,(((Je p).length:Int),((Jq p).length:Int),((Jq p).length:Int),(p.ins.length:Int),(p.outs.length:Int)),(0,0,0)):=by
 unfold Xg at h ⊢
 by_cases hc:(Kf p).2=(0,0,0)
 ·rw [if_pos hc] at h ⊢
  by_cases h6:600<(Xs p).length
  ·rw [if_pos h6] at h;exact absurd (show((4:Int),(0:Int),(3:Int))=(0,0,0) from h) Ug
  ·rw [if_neg h6];exact⟨(Jbb hc).1,(Jbb hc).2,h6,rfl⟩
 ·rw [if_neg hc] at h;exact absurd h hc
theorem Jiy (p:Pr) (a:PrA) (v:Int) (w:World) (hg:Ql w) (hp:Kr w p a) (aw:Ke5 p) (n1:p.ins.length<=1000000) (n2:p.outs.length<=1000000) (n3:p.locals.length<=1000000) (n4:p.eqs.length<=1000000) (hv:0<=v/\v<4294967296) :
  Calls Tryz.prog 34 #[prV p a,.int .u32 v] w fun r w'=>(∃ia,r = .returned (.tuple #[imV (imE p v).1 ia,fV (imE p v).2])/\Jd5 w' (imE p v).1 ia)/\Below w.heap.size w w':=by
 have aZ:=fun W h=>Jof p a W (hg.later h) (hp.later h) aw n1 n2 n3 n4;have hsid:∀(W:World) (b o:Nat) (v:Value),W.cell? ⟨b,o,none⟩=some v->W.setCell ⟨b,o,none⟩ v=W:=fun _ _ _ _ h=>Jry h;have fM:Tryz.prog.eqGuardType Tryz.prog.depth 32=false:=Ue
 by_cases hf:(Xg p).2.2=(0,0,0)
 ·obtain⟨hS,tY,lR,et⟩:=Jvd hf;have bO:=Jff hS;rw [et] at aZ;have dp:∀w,(Op.equalIn 10000 32 (.agg #[.int .i64 0,.int .i64 0,.int .i64 0]) (.agg #[.int .i64 0,.int .i64 0,.int .i64 0])).run Tryz.prog w = .ok true w:=fun w=>So
  by_cases dD:v=0
  ·subst dD;have hv:imE p 0=(Im.zero,(4,0,1)):=by unfold imE;rw [if_neg (fun h=>h hf),if_pos rfl]
   rw [hv];obtain⟨A1,c1,A2,c2,A3,c3,A4,c4⟩:=a;unfold prV fV frT at *;dsimp only at *;clear hg hp aw hf hv et bO;generalize (Je p).length=nv at *;generalize (Jq p).length=nc at *;generalize Xs p=cl at *
   go_enter Tryz.func34,Tryz.ntmps34
   go_upto_region 2 with (go_at_call 72;go_loud (refine(aZ _ Jb).mono ?_;rintro r wa ⟨⟨A,cap,rfl,aY,lS⟩,aA⟩))
   refine Jo fun V hV=>?_;have hi:Ja9 w V:=Vk;have s0:=Na V (wa.heap.size+1) 0 0 Uj;have s1:=Na V (wa.heap.size+1) 1 0 Uj;have s2:=Na V (wa.heap.size+1) 2 0 Uj;have z0:=Nb V (w.heap.size+1) 0 (.int .u32 0) (hi.z 0 _ rfl);have z1:=Nb V (w.heap.size+1) 1 (.int .u32 0) (hi.z 1 _ rfl);have z2:=Na V (w.heap.size+1) 2 0 (hi.z 2 _ rfl);have z3:=Na V (w.heap.size+1) 3 0 (hi.z 3 _ rfl);have z4:=Na V (w.heap.size+1) 4 0 (hi.z 4 _ rfl);have z5:=Na V (w.heap.size+1) 5 0 (hi.z 5 _ rfl);have z6:=Na V (w.heap.size+1) 6 0 (hi.z 6 _ rfl);have z7:=Na V (w.heap.size+1) 7 0 (hi.z 7 _ rfl);have z8:=Nb V (w.heap.size+1) 8 (.slice none 0 0) (hi.z 8 _ rfl);have z9:=Nb V (w.heap.size+1) 9 (.slice none 0 0) (hi.z 9 _ rfl);have z10:=Nb V (w.heap.size+1) 10 (.slice none 0 0) (hi.z 10 _ rfl);have z11:=Na V (w.heap.size+1) 11 0 (hi.z 11 _ rfl);have z12:=Na V (w.heap.size+1) 12 0 (hi.z 12 _ rfl);have y0:=Nc V (w.heap.size+1) 0 (hi.fz 0);have y1:=Nc V (w.heap.size+1) 1 (hi.fz 1);have y2:=Nc V (w.heap.size+1) 2 (hi.fz 2);have y3:=Nc V (w.heap.size+1) 3 (hi.fz 3);have y4:=Nc V (w.heap.size+1) 4 (hi.fz 4);have y5:=Nc V (w.heap.size+1) 5 (hi.fz 5);have y6:=Nc V (w.heap.size+1) 6 (hi.fz 6);have y7:=Nc V (w.heap.size+1) 7 (hi.fz 7);have y8:=Nc V (w.heap.size+1) 8 (hi.fz 8);have y9:=Nc V (w.heap.size+1) 9 (hi.fz 9);have y10:=Nc V (w.heap.size+1) 10 (hi.fz 10);have y11:=Nc V (w.heap.size+1) 11 (hi.fz 11);have y12:=Nc V (w.heap.size+1) 12 (hi.fz 12);have f0:=Na V (w.heap.size+1+1) 0 0 hi.f.1;have f1:=Na V (w.heap.size+1+1) 1 0 hi.f.2.1;have f2:=Na V (w.heap.size+1+1) 2 0 hi.f.2.2;have ff0:=Nc V (w.heap.size+1+1) 0 (hi.ff 0);have ff1:=Nc V (w.heap.size+1+1) 1 (hi.ff 1);have ff2:=Nc V (w.heap.size+1+1) 2 (hi.ff 2);have HI:=Nf hi;clear hV hi aZ
   go_wp2_with fail
   refine Nv (v:= .tuple #[.agg #[.int .u32 0,.int .u32 0,.int .i64 0,.int .i64 0,.int .i64 0,.int .i64 0,.int .i64 0,.int .i64 0,.slice none 0 0,.slice none 0 0,.slice none 0 0,.int .i64 0,.int .i64 0],.agg #[.int .i64 4,.int .i64 0,.int .i64 1]]) Fo rfl ⟨⟨⟨none,0,none,0,none,0⟩,rfl,Jiw _⟩,?_⟩;exact Below.setCell (Below.setCell HI.out.bel (show w.heap.size<=w.heap.size+1+1 by omega) _) (show w.heap.size<=w.heap.size+1+1 by omega) _
  ·have tv:(v == 0)=false:=by simpa using dD
   have gR:=fun W h=>Jqm p a W (hg.later h) (hp.later h) aw n1 n2 n3 n4;rw [show Kf p=(Jq p,(0,0,0)) by unfold Kf;rw [if_pos hS,if_neg tY]] at gR;have hN:=Jvr bO aw tY;have hF:=Jt7 aw;have sB:Jsj (Jd8 p v):=⟨hv,by unfold Jd8;dsimp only;omega,hF,hN,fun i hi=>by cases hi⟩;have hie:imE p v=if (Jdl (Jd8 p v)).2≠0 then(Im.zero,(4,0,(Jdl (Jd8 p v)).2)) else(Jd8 p v,(0,0,0)):=by unfold imE;rw [if_neg (fun h=>h hf),if_neg dD]
   have pl:=fun A cap W h=>Jmz (Xs p) A cap (Jke p) W h hN;have yj:(Jq p).map (fun c=>Value.int .i32 c.first)=nuI ((Jq p).map (·.first)):=by unfold nuI;rw [List.map_map];rfl
   rw [yj] at gR
   have tZ:=fun(A:Option Addr) (cap:Nat) (A5:Option Addr) (c5:Nat) W (h1:Qc W (nuI ((Jq p).map (·.first))) (Jq p).length A5 c5) (h2:Kos W (Xs p) A cap)=>
    Jos (Jd8 p v) ⟨A5,c5,A,cap,none,0⟩ W ⟨by show Qc W (nuI ((Jq p).map (·.first))) ((Jq p).map (·.first)).length A5 c5;rw [List.length_map];exact h1,h2,Jar _⟩ sB
   have jP:∀(A:Option Addr) (cap:Nat) (A5:Option Addr) (c5:Nat),imV (Jd8 p v) ⟨A5,c5,A,cap,none,0⟩ = .agg #[.int .u32 v,.int .u32 0,.int .i64 0,.int .i64 (Je p).length,.int .i64 (Jq p).length,.int .i64 (Jq p).length,.int .i64 p.ins.length,.int .i64 p.outs.length,.slice A5 (Jq p).length c5,.slice A (Xs p).length cap,.slice none 0 0,.int .i64 (Yi (Xs p) (Jke p)).1.2,.int .i64 0]:=fun A cap A5 c5=>by
    unfold imV Jd8 Jke;exact Uh
   have yk:frV (Jke p) = .agg #[.int .i64 (Je p).length,.int .i64 (Jq p).length,.int .i64 (Jq p).length,.int .i64 p.ins.length,.int .i64 p.outs.length]:=rfl;rw [yk] at pl;simp only [jP] at tZ;obtain⟨A1,c1,A2,c2,A3,c3,A4,c4⟩:=a;unfold prV fV frT Jk7 at *;dsimp only at *;rw [hie];clear hg hp aw hf hie et bO hv hN hF sB yj yk tY lR hS;have ni0:True:=trivial;generalize hee:Jdl (Jd8 p v)=E at *;generalize hjj:Yi (Xs p) (Jke p)=J at *;have fY:=Nf jP;clear jP hee;generalize cp:nuI ((Jq p).map (·.first))=nu at *;generalize yl:Xs p=cl at *;have HNU:=Nf cp;have mK:=Nf yl;clear cp yl hjj ni0;generalize jq:(Je p).length=nv at *;generalize xz:(Jq p).length=nc at *;generalize hni:p.ins.length=ni at *;generalize oG:p.outs.length=no at *;clear jq;have HNC:=Nf xz;clear xz hni oG;obtain⟨El,Ee⟩:=E;dsimp only at *
   by_cases he:Ee=0
   ·subst he;rw [if_neg Ug]
    go_enter Tryz.func34,Tryz.ntmps34
    go_upto_region 2 with (go_at_call 72;go_loud (refine(aZ _ Jb).mono ?_;rintro r wa ⟨⟨A,cap,rfl,aY,lS⟩,aA⟩))
    refine Jo fun V hV=>?_;have bK:=Nd wa V Vj;have hi:Ja9 w V:=Vk;have s0:=Na V (wa.heap.size+1) 0 0 Uj;have s1:=Na V (wa.heap.size+1) 1 0 Uj;have s2:=Na V (wa.heap.size+1) 2 0 Uj;have k0:=Na V wa.heap.size 0 nv Uj;have k1:=Na V wa.heap.size 1 nc Uj;have k2:=Na V wa.heap.size 2 nc Uj;have k3:=Na V wa.heap.size 3 ni Uj;have k4:=Na V wa.heap.size 4 no Uj;have p0:=Nb V w.heap.size 0 (.string p.name) (Ja bK (Ja aA Uc));have p1:=Nb V w.heap.size 1 (.slice A1 ni c1) (Ja bK (Ja aA Uc));have p2:=Nb V w.heap.size 2 (.slice A2 no c2) (Ja bK (Ja aA Uc));have p3:=Nb V w.heap.size 3 (.slice A3 p.locals.length c3) (Ja bK (Ja aA Uc));have p4:=Nb V w.heap.size 4 (.slice A4 p.eqs.length c4) (Ja bK (Ja aA Uc));have cN:w.heap.size+3<=wa.heap.size:=U3;have mQ:wa.heap.size+2<=V.heap.size:=Mj;have HI:=Nf hi;have kO:∀b off,A=some ⟨b,off,none⟩->w.heap.size+3<=b:=fun b off h=>by have:=lS b off h;simpa using this
    have yn:=Nf kO;clear lS kO;have ua:=Nf (aY.later bK);have lu:=lt0 w V;clear hV hi aZ aY bK aA
    go_upto_region 7 with fail
    refine Jo fun V2 bz=>?_;have aq:=Nd V V2 (by rw [bz];exact Jc (Nt) _)
    have m0:=Nb V2 V.heap.size 0 (.int .u32 v) Uu;have m1:=Nb V2 V.heap.size 1 (.int .u32 0) Uu;have m2:=Na V2 V.heap.size 2 0 Uu;have m3:=Na V2 V.heap.size 3 nv Uu;have m4:=Na V2 V.heap.size 4 nc Uu;have m5:=Na V2 V.heap.size 5 nc Uu;have m6:=Na V2 V.heap.size 6 ni Uu;have m7:=Na V2 V.heap.size 7 no Uu;have m8:=Nb V2 V.heap.size 8 (.slice none 0 0) Uu;have m9:=Nb V2 V.heap.size 9 (.slice A cl.length cap) Uu;have m10:=Nb V2 V.heap.size 10 (.slice none 0 0) Uu;have m11:=Na V2 V.heap.size 11 0 Uu;have m12:=Na V2 V.heap.size 12 0 Uu;have g8:=Nc V2 V.heap.size 8 Uu;have g11:=Nc V2 V.heap.size 11 Uu;have br:V.heap.size<V2.heap.size:=by rw [bz];simp
    replace p0:=Ja aq p0;replace p1:=Ja aq p1;replace p2:=Ja aq p2;replace p3:=Ja aq p3;replace p4:=Ja aq p4;replace k0:=Ja aq k0;replace k1:=Ja aq k1;replace k2:=Ja aq k2;replace k3:=Ja aq k3;replace k4:=Ja aq k4;have mU:=Nf (HI.out.later aq);have pn:=Nf (ua.out.later aq);have po:=Nf ua.out;clear bz aq s0 s1 s2 HI ua
    go_upto_region 8 with (go_at_call 73;go_loud (refine(gR _ mU.out.bel).mono ?_;rintro r wf ⟨⟨vf,rfl,gw⟩,bZ⟩;obtain⟨A5,c5,rfl,ub⟩:=Qc.of_own gw;have n8:=Ja bZ m8;have o8:=Nc wf V.heap.size 8 ((Jf bZ _ _ br).trans g8)))
    refine Jo fun V3 dl=>?_;have eq:=bZ.size;have aE:V3.ownsRow V2.heap.size 21 1 (.slice A5 nc c5) nc nu:=Me;have lT:Hid (Kos V3 cl A cap):=Fs;have lQ:Hid (Ja9 w V3):=Ucv;have r0:=Nb V3 V.heap.size 0 (.int .u32 v) (by rw [dl,J5 _ _ _ _ _ Ug];exact Ja bZ m0)
    have r1:=Nb V3 V.heap.size 1 (.int .u32 0) (by rw [dl,J5 _ _ _ _ _ Ug];exact Ja bZ m1)
    have r2:=Na V3 V.heap.size 2 0 (by rw [dl,J5 _ _ _ _ _ Ug];exact Ja bZ m2)
    have r3:=Na V3 V.heap.size 3 nv (by rw [dl,J5 _ _ _ _ _ Ug];exact Ja bZ m3)
    have r4:=Na V3 V.heap.size 4 nc (by rw [dl,J5 _ _ _ _ _ Ug];exact Ja bZ m4)
    have r5:=Na V3 V.heap.size 5 nc (by rw [dl,J5 _ _ _ _ _ Ug];exact Ja bZ m5)
    have r6:=Na V3 V.heap.size 6 ni (by rw [dl,J5 _ _ _ _ _ Ug];exact Ja bZ m6)
    have r7:=Na V3 V.heap.size 7 no (by rw [dl,J5 _ _ _ _ _ Ug];exact Ja bZ m7)
    have r8:=Nb V3 V.heap.size 8 (.slice A5 nc c5) G3;have r9:=Nb V3 V.heap.size 9 (.slice A cl.length cap) (by rw [dl,J5 _ _ _ _ _ Ug];exact Ja bZ m9)
    have r10:=Nb V3 V.heap.size 10 (.slice none 0 0) (by rw [dl,J5 _ _ _ _ _ Ug];exact Ja bZ m10)
    have r11:=Na V3 V.heap.size 11 0 (by rw [dl,J5 _ _ _ _ _ Ug];exact Ja bZ m11)
    have r12:=Na V3 V.heap.size 12 0 (by rw [dl,J5 _ _ _ _ _ Ug];exact Ja bZ m12)
    have g11':=Nc V3 V.heap.size 11 Gn;replace k0:=Na V3 wa.heap.size 0 nv (by rw [dl,Qm _ _ _ _ _ _ Ua];exact Ja bZ k0)
    replace k1:=Na V3 wa.heap.size 1 nc (by rw [dl,Qm _ _ _ _ _ _ Ua];exact Ja bZ k1)
    replace k2:=Na V3 wa.heap.size 2 nc (by rw [dl,Qm _ _ _ _ _ _ Ua];exact Ja bZ k2)
    replace k3:=Na V3 wa.heap.size 3 ni (by rw [dl,Qm _ _ _ _ _ _ Ua];exact Ja bZ k3)
    replace k4:=Na V3 wa.heap.size 4 no (by rw [dl,Qm _ _ _ _ _ _ Ua];exact Ja bZ k4)
    have fe:V2.heap.size<=V3.heap.size:=by rw [dl];simpa using eq
    have kI:=lt0 V V3;have iK:=Nf aE;clear dl ub gw gR m0 m1 m2 m3 m4 m5 m6 m7 m8 m9 m10 m11 m12 g8 g11 n8 o8 p0 p1 p2 p3 p4 aE bZ pn mU
    go_upto_region 10 with (go_at_call 29;go_loud (refine(pl A cap _ lT.out).mono ?_;rintro r wj ⟨rfl,dQ⟩;have q11:=Ja dQ r11;have o11:=Nc wj V.heap.size 11 ((Jf dQ _ _ kI).trans g11');have hzj:V.heap.size<wj.heap.size:=(by have:=dQ.size;omega)))
    refine Jo fun V4 eE=>?_;have hzj2:=dQ.size;have cj:V4.ownsRow V2.heap.size 21 1 (.slice A5 nc c5) nc nu:=L9;have lU:Hid (Kos V4 cl A cap):=Lo;have qP:Hid (Ja9 w V4):=Ucd;have t0:=Nb V4 V.heap.size 0 (.int .u32 v) Ucl;have t1:=Nb V4 V.heap.size 1 (.int .u32 0) Ucm;have t2:=Na V4 V.heap.size 2 0 Ucn;have t3:=Na V4 V.heap.size 3 nv Uco;have t4:=Na V4 V.heap.size 4 nc Ucp;have t5:=Na V4 V.heap.size 5 nc Ucq;have t6:=Na V4 V.heap.size 6 ni Ucr;have t7:=Na V4 V.heap.size 7 no Ucs;have t8:=Nb V4 V.heap.size 8 (.slice A5 nc c5) Uct;have t9:=Nb V4 V.heap.size 9 (.slice A cl.length cap) Ucu;have t10:=Nb V4 V.heap.size 10 (.slice none 0 0) Ucj;have t11:=Na V4 V.heap.size 11 J.1.2 Gc;have t12:=Na V4 V.heap.size 12 0 Uck;have qS:V.heap.size<V4.heap.size:=by rw [eE];simp;omega
    have iL:=Nf cj;clear eE r0 r1 r2 r3 r4 r5 r6 r7 r8 r9 r10 r11 r12 g11' cj iK lT lQ pl q11 o11 k0 k1 k2 k3 k4 dQ
    go_upto_region 11 with (go_at_call 12;go_loud (refine(tZ A cap A5 c5 _ (Qc.own2 iL.out) lU.out).mono ?_;rintro r we ⟨⟨Ae,ce,rfl⟩,ef⟩))
    refine Jo fun V5 gy=>?_;have da:=Nd V4 V5 (by rw [gy];exact ef)
    have bP:=qP.out.later da;have z0:=Nb V5 (w.heap.size+1) 0 (.int .u32 0) (bP.z 0 _ rfl);have z1:=Nb V5 (w.heap.size+1) 1 (.int .u32 0) (bP.z 1 _ rfl);have z2:=Na V5 (w.heap.size+1) 2 0 (bP.z 2 _ rfl);have z3:=Na V5 (w.heap.size+1) 3 0 (bP.z 3 _ rfl);have z4:=Na V5 (w.heap.size+1) 4 0 (bP.z 4 _ rfl);have z5:=Na V5 (w.heap.size+1) 5 0 (bP.z 5 _ rfl);have z6:=Na V5 (w.heap.size+1) 6 0 (bP.z 6 _ rfl);have z7:=Na V5 (w.heap.size+1) 7 0 (bP.z 7 _ rfl);have z8:=Nb V5 (w.heap.size+1) 8 (.slice none 0 0) (bP.z 8 _ rfl);have z9:=Nb V5 (w.heap.size+1) 9 (.slice none 0 0) (bP.z 9 _ rfl);have z10:=Nb V5 (w.heap.size+1) 10 (.slice none 0 0) (bP.z 10 _ rfl);have z11:=Na V5 (w.heap.size+1) 11 0 (bP.z 11 _ rfl);have z12:=Na V5 (w.heap.size+1) 12 0 (bP.z 12 _ rfl);have y0:=Nc V5 (w.heap.size+1) 0 (bP.fz 0);have y1:=Nc V5 (w.heap.size+1) 1 (bP.fz 1);have y2:=Nc V5 (w.heap.size+1) 2 (bP.fz 2);have y3:=Nc V5 (w.heap.size+1) 3 (bP.fz 3);have y4:=Nc V5 (w.heap.size+1) 4 (bP.fz 4);have y5:=Nc V5 (w.heap.size+1) 5 (bP.fz 5);have y6:=Nc V5 (w.heap.size+1) 6 (bP.fz 6);have y7:=Nc V5 (w.heap.size+1) 7 (bP.fz 7);have y8:=Nc V5 (w.heap.size+1) 8 (bP.fz 8);have y9:=Nc V5 (w.heap.size+1) 9 (bP.fz 9);have y10:=Nc V5 (w.heap.size+1) 10 (bP.fz 10);have y11:=Nc V5 (w.heap.size+1) 11 (bP.fz 11);have y12:=Nc V5 (w.heap.size+1) 12 (bP.fz 12);have f0:=Na V5 (w.heap.size+1+1) 0 0 bP.f.1;have f1:=Na V5 (w.heap.size+1+1) 1 0 bP.f.2.1;have f2:=Na V5 (w.heap.size+1+1) 2 0 bP.f.2.2;have ff0:=Nc V5 (w.heap.size+1+1) 0 (bP.ff 0);have ff1:=Nc V5 (w.heap.size+1+1) 1 (bP.ff 1);have ff2:=Nc V5 (w.heap.size+1+1) 2 (bP.ff 2);have wK:=Nf bP;have sC:=Nf (Jy iL.out da);have yo:=Nf (lU.out.later da);have x0:=Nb V5 V.heap.size 0 (.int .u32 v) (Ja da t0);have x1:=Nb V5 V.heap.size 1 (.int .u32 0) (Ja da t1);have x2:=Na V5 V.heap.size 2 0 (Ja da t2);have x3:=Na V5 V.heap.size 3 nv (Ja da t3);have x4:=Na V5 V.heap.size 4 nc (Ja da t4);have x5:=Na V5 V.heap.size 5 nc (Ja da t5);have x6:=Na V5 V.heap.size 6 ni (Ja da t6);have x7:=Na V5 V.heap.size 7 no (Ja da t7);have x8:=Nb V5 V.heap.size 8 (.slice A5 nc c5) (Ja da t8);have x9:=Nb V5 V.heap.size 9 (.slice A cl.length cap) (Ja da t9);have x10:=Nb V5 V.heap.size 10 (.slice none 0 0) (Ja da t10);have x11:=Na V5 V.heap.size 11 J.1.2 (Ja da t11);have x12:=Na V5 V.heap.size 12 0 (Ja da t12);clear bP gy da ef qP iL lU
    go_wp2_with fail
    refine Nv (v:= .tuple #[.agg #[.int .u32 v,.int .u32 0,.int .i64 0,.int .i64 nv,.int .i64 nc,.int .i64 nc,.int .i64 ni,.int .i64 no,.slice A5 nc c5,.slice A cl.length cap,.slice none 0 0,.int .i64 J.1.2,.int .i64 0],.agg #[.int .i64 0,.int .i64 0,.int .i64 0]]) Fo rfl ⟨⟨⟨A5,c5,A,cap,none,0⟩,by rw [fY.out],?_⟩,?_⟩
    ·have cP:Kos V5 cl A cap:=yo.out;have hfi:=sC.out;refine⟨?_,?_,Jar _⟩
     ·show Qc _ (nuI ((Jq p).map (·.first))) ((Jq p).map (·.first)).length A5 c5;rw [List.length_map,HNU.out,HNC.out];refine Qc.own2 (base:=V2.heap.size) (e:=21) ?_
      repeat (first|(with_reducible exact hfi)|refine Kn ?_ (fun b hb he=>by have:=(hfi.lt b hb).1;omega) _ _)
     ·show Kos _ (Xs p) A cap;rw [mK.out]
      repeat (first|(with_reducible exact cP)|refine Kos.off ?_ (fun b off h=>by have:=yn.out b off h;omega) _ _)
    ·repeat (first|(with_reducible exact wK.out.bel)|refine Below.setCell ?_ (show w.heap.size<=w.heap.size+1 by omega) _)
   ·rw [if_pos he];have te:(Ee != 0)=true:=F8;clear he
    go_enter Tryz.func34,Tryz.ntmps34
    go_upto_region 2 with (go_at_call 72;go_loud (refine(aZ _ Jb).mono ?_;rintro r wa ⟨⟨A,cap,rfl,aY,lS⟩,aA⟩))
    refine Jo fun V hV=>?_;have bK:=Nd wa V Vj;have hi:Ja9 w V:=Vk;have s0:=Na V (wa.heap.size+1) 0 0 Uj;have s1:=Na V (wa.heap.size+1) 1 0 Uj;have s2:=Na V (wa.heap.size+1) 2 0 Uj;have k0:=Na V wa.heap.size 0 nv Uj;have k1:=Na V wa.heap.size 1 nc Uj;have k2:=Na V wa.heap.size 2 nc Uj;have k3:=Na V wa.heap.size 3 ni Uj;have k4:=Na V wa.heap.size 4 no Uj;have p0:=Nb V w.heap.size 0 (.string p.name) (Ja bK (Ja aA Uc));have p1:=Nb V w.heap.size 1 (.slice A1 ni c1) (Ja bK (Ja aA Uc));have p2:=Nb V w.heap.size 2 (.slice A2 no c2) (Ja bK (Ja aA Uc));have p3:=Nb V w.heap.size 3 (.slice A3 p.locals.length c3) (Ja bK (Ja aA Uc));have p4:=Nb V w.heap.size 4 (.slice A4 p.eqs.length c4) (Ja bK (Ja aA Uc));have cN:w.heap.size+3<=wa.heap.size:=U3;have mQ:wa.heap.size+2<=V.heap.size:=Mj;have HI:=Nf hi;have kO:∀b off,A=some ⟨b,off,none⟩->w.heap.size+3<=b:=fun b off h=>by have:=lS b off h;simpa using this
    have yn:=Nf kO;clear lS kO;have ua:=Nf (aY.later bK);have lu:=lt0 w V;clear hV hi aZ aY bK aA
    go_upto_region 7 with fail
    refine Jo fun V2 bz=>?_;have aq:=Nd V V2 (by rw [bz];exact Jc (Nt) _)
    have m0:=Nb V2 V.heap.size 0 (.int .u32 v) Uu;have m1:=Nb V2 V.heap.size 1 (.int .u32 0) Uu;have m2:=Na V2 V.heap.size 2 0 Uu;have m3:=Na V2 V.heap.size 3 nv Uu;have m4:=Na V2 V.heap.size 4 nc Uu;have m5:=Na V2 V.heap.size 5 nc Uu;have m6:=Na V2 V.heap.size 6 ni Uu;have m7:=Na V2 V.heap.size 7 no Uu;have m8:=Nb V2 V.heap.size 8 (.slice none 0 0) Uu;have m9:=Nb V2 V.heap.size 9 (.slice A cl.length cap) Uu;have m10:=Nb V2 V.heap.size 10 (.slice none 0 0) Uu;have m11:=Na V2 V.heap.size 11 0 Uu;have m12:=Na V2 V.heap.size 12 0 Uu;have g8:=Nc V2 V.heap.size 8 Uu;have g11:=Nc V2 V.heap.size 11 Uu;have br:V.heap.size<V2.heap.size:=by rw [bz];simp
    replace p0:=Ja aq p0;replace p1:=Ja aq p1;replace p2:=Ja aq p2;replace p3:=Ja aq p3;replace p4:=Ja aq p4;replace k0:=Ja aq k0;replace k1:=Ja aq k1;replace k2:=Ja aq k2;replace k3:=Ja aq k3;replace k4:=Ja aq k4;have mU:=Nf (HI.out.later aq);have pn:=Nf (ua.out.later aq);have po:=Nf ua.out;clear bz aq s0 s1 s2 HI ua
    go_upto_region 8 with (go_at_call 73;go_loud (refine(gR _ mU.out.bel).mono ?_;rintro r wf ⟨⟨vf,rfl,gw⟩,bZ⟩;obtain⟨A5,c5,rfl,ub⟩:=Qc.of_own gw;have n8:=Ja bZ m8;have o8:=Nc wf V.heap.size 8 ((Jf bZ _ _ br).trans g8)))
    refine Jo fun V3 dl=>?_;have eq:=bZ.size;have aE:V3.ownsRow V2.heap.size 21 1 (.slice A5 nc c5) nc nu:=Me;have lT:Hid (Kos V3 cl A cap):=Fs;have lQ:Hid (Ja9 w V3):=Ucv;have r0:=Nb V3 V.heap.size 0 (.int .u32 v) (by rw [dl,J5 _ _ _ _ _ Ug];exact Ja bZ m0)
    have r1:=Nb V3 V.heap.size 1 (.int .u32 0) (by rw [dl,J5 _ _ _ _ _ Ug];exact Ja bZ m1)
    have r2:=Na V3 V.heap.size 2 0 (by rw [dl,J5 _ _ _ _ _ Ug];exact Ja bZ m2)
    have r3:=Na V3 V.heap.size 3 nv (by rw [dl,J5 _ _ _ _ _ Ug];exact Ja bZ m3)
    have r4:=Na V3 V.heap.size 4 nc (by rw [dl,J5 _ _ _ _ _ Ug];exact Ja bZ m4)
    have r5:=Na V3 V.heap.size 5 nc (by rw [dl,J5 _ _ _ _ _ Ug];exact Ja bZ m5)
    have r6:=Na V3 V.heap.size 6 ni (by rw [dl,J5 _ _ _ _ _ Ug];exact Ja bZ m6)
    have r7:=Na V3 V.heap.size 7 no (by rw [dl,J5 _ _ _ _ _ Ug];exact Ja bZ m7)
    have r8:=Nb V3 V.heap.size 8 (.slice A5 nc c5) G3;have r9:=Nb V3 V.heap.size 9 (.slice A cl.length cap) (by rw [dl,J5 _ _ _ _ _ Ug];exact Ja bZ m9)
    have r10:=Nb V3 V.heap.size 10 (.slice none 0 0) (by rw [dl,J5 _ _ _ _ _ Ug];exact Ja bZ m10)
    have r11:=Na V3 V.heap.size 11 0 (by rw [dl,J5 _ _ _ _ _ Ug];exact Ja bZ m11)
    have r12:=Na V3 V.heap.size 12 0 (by rw [dl,J5 _ _ _ _ _ Ug];exact Ja bZ m12)
    have g11':=Nc V3 V.heap.size 11 Gn;replace k0:=Na V3 wa.heap.size 0 nv (by rw [dl,Qm _ _ _ _ _ _ Ua];exact Ja bZ k0)
    replace k1:=Na V3 wa.heap.size 1 nc (by rw [dl,Qm _ _ _ _ _ _ Ua];exact Ja bZ k1)
    replace k2:=Na V3 wa.heap.size 2 nc (by rw [dl,Qm _ _ _ _ _ _ Ua];exact Ja bZ k2)
    replace k3:=Na V3 wa.heap.size 3 ni (by rw [dl,Qm _ _ _ _ _ _ Ua];exact Ja bZ k3)
    replace k4:=Na V3 wa.heap.size 4 no (by rw [dl,Qm _ _ _ _ _ _ Ua];exact Ja bZ k4)
    have fe:V2.heap.size<=V3.heap.size:=by rw [dl];simpa using eq
    have kI:=lt0 V V3;have iK:=Nf aE;clear dl ub gw gR m0 m1 m2 m3 m4 m5 m6 m7 m8 m9 m10 m11 m12 g8 g11 n8 o8 p0 p1 p2 p3 p4 aE bZ pn mU
    go_upto_region 10 with (go_at_call 29;go_loud (refine(pl A cap _ lT.out).mono ?_;rintro r wj ⟨rfl,dQ⟩;have q11:=Ja dQ r11;have o11:=Nc wj V.heap.size 11 ((Jf dQ _ _ kI).trans g11');have hzj:V.heap.size<wj.heap.size:=(by have:=dQ.size;omega)))
    refine Jo fun V4 eE=>?_;have hzj2:=dQ.size;have cj:V4.ownsRow V2.heap.size 21 1 (.slice A5 nc c5) nc nu:=L9;have lU:Hid (Kos V4 cl A cap):=Lo;have qP:Hid (Ja9 w V4):=Ucd;have t0:=Nb V4 V.heap.size 0 (.int .u32 v) Ucl;have t1:=Nb V4 V.heap.size 1 (.int .u32 0) Ucm;have t2:=Na V4 V.heap.size 2 0 Ucn;have t3:=Na V4 V.heap.size 3 nv Uco;have t4:=Na V4 V.heap.size 4 nc Ucp;have t5:=Na V4 V.heap.size 5 nc Ucq;have t6:=Na V4 V.heap.size 6 ni Ucr;have t7:=Na V4 V.heap.size 7 no Ucs;have t8:=Nb V4 V.heap.size 8 (.slice A5 nc c5) Uct;have t9:=Nb V4 V.heap.size 9 (.slice A cl.length cap) Ucu;have t10:=Nb V4 V.heap.size 10 (.slice none 0 0) Ucj;have t11:=Na V4 V.heap.size 11 J.1.2 Gc;have t12:=Na V4 V.heap.size 12 0 Uck;have qS:V.heap.size<V4.heap.size:=by rw [eE];simp;omega
    have iL:=Nf cj;clear eE r0 r1 r2 r3 r4 r5 r6 r7 r8 r9 r10 r11 r12 g11' cj iK lT lQ pl q11 o11 k0 k1 k2 k3 k4 dQ
    go_upto_region 11 with (go_at_call 12;go_loud (refine(tZ A cap A5 c5 _ (Qc.own2 iL.out) lU.out).mono ?_;rintro r we ⟨⟨Ae,ce,rfl⟩,ef⟩))
    refine Jo fun V5 gy=>?_;have da:=Nd V4 V5 (by rw [gy];exact ef)
    have bP:=qP.out.later da;have z0:=Nb V5 (w.heap.size+1) 0 (.int .u32 0) (bP.z 0 _ rfl);have z1:=Nb V5 (w.heap.size+1) 1 (.int .u32 0) (bP.z 1 _ rfl);have z2:=Na V5 (w.heap.size+1) 2 0 (bP.z 2 _ rfl);have z3:=Na V5 (w.heap.size+1) 3 0 (bP.z 3 _ rfl);have z4:=Na V5 (w.heap.size+1) 4 0 (bP.z 4 _ rfl);have z5:=Na V5 (w.heap.size+1) 5 0 (bP.z 5 _ rfl);have z6:=Na V5 (w.heap.size+1) 6 0 (bP.z 6 _ rfl);have z7:=Na V5 (w.heap.size+1) 7 0 (bP.z 7 _ rfl);have z8:=Nb V5 (w.heap.size+1) 8 (.slice none 0 0) (bP.z 8 _ rfl);have z9:=Nb V5 (w.heap.size+1) 9 (.slice none 0 0) (bP.z 9 _ rfl);have z10:=Nb V5 (w.heap.size+1) 10 (.slice none 0 0) (bP.z 10 _ rfl);have z11:=Na V5 (w.heap.size+1) 11 0 (bP.z 11 _ rfl);have z12:=Na V5 (w.heap.size+1) 12 0 (bP.z 12 _ rfl);have y0:=Nc V5 (w.heap.size+1) 0 (bP.fz 0);have y1:=Nc V5 (w.heap.size+1) 1 (bP.fz 1);have y2:=Nc V5 (w.heap.size+1) 2 (bP.fz 2);have y3:=Nc V5 (w.heap.size+1) 3 (bP.fz 3);have y4:=Nc V5 (w.heap.size+1) 4 (bP.fz 4);have y5:=Nc V5 (w.heap.size+1) 5 (bP.fz 5);have y6:=Nc V5 (w.heap.size+1) 6 (bP.fz 6);have y7:=Nc V5 (w.heap.size+1) 7 (bP.fz 7);have y8:=Nc V5 (w.heap.size+1) 8 (bP.fz 8);have y9:=Nc V5 (w.heap.size+1) 9 (bP.fz 9);have y10:=Nc V5 (w.heap.size+1) 10 (bP.fz 10);have y11:=Nc V5 (w.heap.size+1) 11 (bP.fz 11);have y12:=Nc V5 (w.heap.size+1) 12 (bP.fz 12);have f0:=Na V5 (w.heap.size+1+1) 0 0 bP.f.1;have f1:=Na V5 (w.heap.size+1+1) 1 0 bP.f.2.1;have f2:=Na V5 (w.heap.size+1+1) 2 0 bP.f.2.2;have ff0:=Nc V5 (w.heap.size+1+1) 0 (bP.ff 0);have ff1:=Nc V5 (w.heap.size+1+1) 1 (bP.ff 1);have ff2:=Nc V5 (w.heap.size+1+1) 2 (bP.ff 2);have wK:=Nf bP;have sC:=Nf (Jy iL.out da);have yo:=Nf (lU.out.later da);clear bP gy da ef qP iL lU
    go_wp2_with fail
    refine Nv (v:= .tuple #[.agg #[.int .u32 0,.int .u32 0,.int .i64 0,.int .i64 0,.int .i64 0,.int .i64 0,.int .i64 0,.int .i64 0,.slice none 0 0,.slice none 0 0,.slice none 0 0,.int .i64 0,.int .i64 0],.agg #[.int .i64 4,.int .i64 0,.int .i64 Ee]]) Fo rfl ⟨⟨⟨none,0,none,0,none,0⟩,rfl,Jiw _⟩,?_⟩;exact Below.setCell (Below.setCell wK.out.bel (show w.heap.size<=w.heap.size+1+1 by omega) _) (show w.heap.size<=w.heap.size+1+1 by omega) _
 ·have hv:imE p v=(Im.zero,(Xg p).2.2):=by unfold imE;rw [if_pos hf]
  rw [hv]
  have aS:((Xg p).2.2.1 == 0 && (Xg p).2.2.2.1 == 0 && (Xg p).2.2.2.2 == 0)=false:=by
   exact Ua0
  have dp:∀w,(Op.equalIn 10000 32 (.agg #[.int .i64 (Xg p).2.2.1,.int .i64 (Xg p).2.2.2.1,.int .i64 (Xg p).2.2.2.2]) (.agg #[.int .i64 0,.int .i64 0,.int .i64 0])).run Tryz.prog w = .ok false w:=fun w=>by rw [Zr,aS]
  obtain⟨A1,c1,A2,c2,A3,c3,A4,c4⟩:=a;unfold prV fV frT at *;dsimp only at *;generalize (Xg p).2.2.1=k1 at *;generalize (Xg p).2.2.2.1=k2 at *;generalize (Xg p).2.2.2.2=k3 at *;generalize (Xg p).2.1=fr at *;generalize (Xg p).1=cl at *;clear hg hp aw hf aS hv
  go_enter Tryz.func34,Tryz.ntmps34
  go_upto_region 2 with (go_at_call 72;go_loud (refine(aZ _ Jb).mono ?_;rintro r wa ⟨⟨A,cap,rfl,aY,lS⟩,aA⟩))
  refine Jo fun V hV=>?_;have hi:Ja9 w V:=Vk;have s0:=Na V (wa.heap.size+1) 0 k1 Uj;have s1:=Na V (wa.heap.size+1) 1 k2 Uj;have s2:=Na V (wa.heap.size+1) 2 k3 Uj;have cN:w.heap.size+3<=wa.heap.size:=U3;have z0:=Nb V (w.heap.size+1) 0 (.int .u32 0) (hi.z 0 _ rfl);have z1:=Nb V (w.heap.size+1) 1 (.int .u32 0) (hi.z 1 _ rfl);have z2:=Na V (w.heap.size+1) 2 0 (hi.z 2 _ rfl);have z3:=Na V (w.heap.size+1) 3 0 (hi.z 3 _ rfl);have z4:=Na V (w.heap.size+1) 4 0 (hi.z 4 _ rfl);have z5:=Na V (w.heap.size+1) 5 0 (hi.z 5 _ rfl);have z6:=Na V (w.heap.size+1) 6 0 (hi.z 6 _ rfl);have z7:=Na V (w.heap.size+1) 7 0 (hi.z 7 _ rfl);have z8:=Nb V (w.heap.size+1) 8 (.slice none 0 0) (hi.z 8 _ rfl);have z9:=Nb V (w.heap.size+1) 9 (.slice none 0 0) (hi.z 9 _ rfl);have z10:=Nb V (w.heap.size+1) 10 (.slice none 0 0) (hi.z 10 _ rfl);have z11:=Na V (w.heap.size+1) 11 0 (hi.z 11 _ rfl);have z12:=Na V (w.heap.size+1) 12 0 (hi.z 12 _ rfl);have y0:=Nc V (w.heap.size+1) 0 (hi.fz 0);have y1:=Nc V (w.heap.size+1) 1 (hi.fz 1);have y2:=Nc V (w.heap.size+1) 2 (hi.fz 2);have y3:=Nc V (w.heap.size+1) 3 (hi.fz 3);have y4:=Nc V (w.heap.size+1) 4 (hi.fz 4);have y5:=Nc V (w.heap.size+1) 5 (hi.fz 5);have y6:=Nc V (w.heap.size+1) 6 (hi.fz 6);have y7:=Nc V (w.heap.size+1) 7 (hi.fz 7);have y8:=Nc V (w.heap.size+1) 8 (hi.fz 8);have y9:=Nc V (w.heap.size+1) 9 (hi.fz 9);have y10:=Nc V (w.heap.size+1) 10 (hi.fz 10);have y11:=Nc V (w.heap.size+1) 11 (hi.fz 11);have y12:=Nc V (w.heap.size+1) 12 (hi.fz 12);have f0:=Na V (w.heap.size+1+1) 0 0 hi.f.1;have f1:=Na V (w.heap.size+1+1) 1 0 hi.f.2.1;have f2:=Na V (w.heap.size+1+1) 2 0 hi.f.2.2;have ff0:=Nc V (w.heap.size+1+1) 0 (hi.ff 0);have ff1:=Nc V (w.heap.size+1+1) 1 (hi.ff 1);have ff2:=Nc V (w.heap.size+1+1) 2 (hi.ff 2);have HI:=Nf hi;clear hV hi aZ
  go_upto_region 3 with fail
  have ar:(fun w':World=>w'.cell? ⟨wa.heap.size+1,0,none⟩=some (.int .i64 k1)/\w'.cell? ⟨wa.heap.size+1,1,none⟩=some (.int .i64 k2)/\w'.cell? ⟨wa.heap.size+1,2,none⟩=some (.int .i64 k3)) V.drew:=⟨s0,s1,s2⟩;dsimp only at ar;refine Kd (fun w'=>w'.cell? ⟨wa.heap.size+1,0,none⟩=some (.int .i64 k1)/\w'.cell? ⟨wa.heap.size+1,1,none⟩=some (.int .i64 k2)/\w'.cell? ⟨wa.heap.size+1,2,none⟩=some (.int .i64 k3)) 3 1 Ue Gp ?_;simp only [List.size_toArray,Nl,Nm,Nat.zero_add,Nat.reduceAdd];refine Ji 0 ar ?_;refine Ji 1 ar ?_;refine Kb 2 ?_;refine Jj fun K hK=>?_;go_simp;refine hK _ _ ⟨ar,Kh Ue ?_⟩;clear hK K
  try simp only [Act.put,sa1,sa2,sa3]
  refine Qx 3 ?_;refine Jj fun K hK=>?_;go_simp;refine hK _ _ ?_;clear hK K
  try simp only [Act.put,sa1,sa2,sa3]
  refine Ki Ue ?_;clear ar
  go_wp2_with fail
  refine Nv (v:= .tuple #[.agg #[.int .u32 0,.int .u32 0,.int .i64 0,.int .i64 0,.int .i64 0,.int .i64 0,.int .i64 0,.int .i64 0,.slice none 0 0,.slice none 0 0,.slice none 0 0,.int .i64 0,.int .i64 0],.agg #[.int .i64 k1,.int .i64 k2,.int .i64 k3]]) Fo rfl ⟨⟨⟨none,0,none,0,none,0⟩,rfl,Jiw _⟩,?_⟩;exact Qq _ _ _ (Jd HI.out.bel (Jh (Nt))) Ua
end Go.Proofs.YtdgjplldlfeolaaGreatDoor
