/- Lemmas. -/
import Derived.Test.YtdgjplldlfeolaaGreatDoorZ43
import Derived.Test.YtdgjplldlfeolaaGreatDoorZ45
import Derived.Test.YtdgjplldlfeolaaGreatDoorZ46
import Derived.Test.YtdgjplldlfeolaaGreatDoorZ40
import Derived.Test.YtdgjplldlfeolaaGreatDoorZ27
import Derived.Test.YtdgjplldlfeolaaGreatDoorZ16
import Derived.Test.YtdgjplldlfeolaaGreatDoorZ19
import Derived.Deep.CutRange
import Derived.Deep.RegionLaw
import Derived.Test.YtdgjplldlfeolaaGreatDoorZ01
import Derived.Test.YtdgjplldlfeolaaGreatDoorRows
import Derived.Test.YtdgjplldlfeolaaGreatDoorZ03
import Derived.Test.YtdgjplldlfeolaaGreatDoorZ00
import Derived.Test.YtdgjplldlfeolaaGreatDoorZ26
import Derived.Test.YtdgjplldlfeolaaGreatDoorZ04
import Derived.Test.YtdgjplldlfeolaaGreatDoorZ22
import Derived.Test.YtdgjplldlfeolaaGreatDoorZ36
import Derived.Test.YtdgjplldlfeolaaGreatDoorZ42
import Derived.Test.YtdgjplldlfeolaaGreatDoorZ17
import Derived.Test.YtdgjplldlfeolaaGreatDoorZ20
import Derived.Lib.SmallJoins
set_option linter.unusedVariables false
set_option linter.unusedSimpArgs false
set_option maxRecDepth 100000
set_option maxHeartbeats 64000000
namespace Go.Proofs.YtdgjplldlfeolaaGreatDoor
open Go.RowKit Go.Sort Go.Maps Go.ChangeMaps Go.WideMaps
def frT (x:Int×Int×Int×Int×Int):Value:= .agg #[.int .i64 x.1,.int .i64 x.2.1,.int .i64 x.2.2.1,.int .i64 x.2.2.2.1,.int .i64 x.2.2.2.2]
theorem Jbb {p:Pr} (h:(Kf p).2=(0,0,0)):Ks p=(0,0,0)/\¬16<(Jq p).length:=by
 unfold Kf at h
 by_cases hs:Ks p=(0,0,0)
 ·rw [if_pos hs] at h;refine⟨hs,fun hb=>?_⟩;rw [if_pos hb] at h;exact absurd (show((4:Int),(0:Int),(3:Int))=(0,0,0) from h) (by decide)
 ·rw [if_neg hs] at h;exact absurd h hs
theorem Jof (p:Pr) (a:PrA) (w:World) (hg:Ql w) (hp:Kr w p a) (aw:Ke5 p) (n1:p.ins.length<=1000000) (n2:p.outs.length<=1000000) (n3:p.locals.length<=1000000) (n4:p.eqs.length<=1000000) :
  Calls Tryz.prog 72 #[prV p a] w fun r w'=>(∃A cap,r = .returned (.tuple #[.slice A (Xg p).1.length cap,frT (Xg p).2.1,fV (Xg p).2.2])/\J3 w' (Xg p).1 A cap/\∀b off,A=some ⟨b,off,none⟩->w.heap.size<=b)/\Below w.heap.size w w':=by
 by_cases h:(Kf p).2=(0,0,0)
 ·obtain⟨hS,hb⟩:=Jbb h;refine(Jo3 p a w hg hp aw n1 n2 n3 n4 hS hb).mono ?_;rintro r w' ⟨hc,ab⟩;refine⟨?_,ab⟩;unfold Xg;rw [if_pos h]
  by_cases h6:600<(Xs p).length
  ·rw [if_pos h6] at hc;rw [if_pos h6];exact⟨none,0,hc,Jar _,fun b off h=>by cases h⟩
  ·rw [if_neg h6] at hc;rw [if_neg h6];obtain⟨v,hr,ae⟩:=hc;obtain⟨A,cap,rfl,aY⟩:=J3.of_own ae;exact⟨A,cap,hr,aY,fun b off h=>(ae.lt b (by rw [h];rfl)).1⟩
 ·refine(Jrb p a w hg hp aw n1 n2 n3 n4 h).mono ?_;rintro r w' ⟨hr,ab⟩;refine⟨?_,ab⟩;unfold Xg;rw [if_neg h];exact⟨none,0,hr,Jar _,fun b off h=>by cases h⟩
theorem Jos (m:Im) (a:ImA) (w:World) (hm:Jd5 w m a) (aw:Jsj m) :
  Calls Tryz.prog 12 #[imV m a] w fun r w'=>(∃A cap,r = .returned (.tuple #[.slice A (Jdl m).1.length cap,.int .i64 (Jdl m).2]))/\Below w.heap.size w w':=by
 have aN:=fun W (h:Below w.heap.size w W)=>Jqe m a W (hm.later h) aw
 by_cases hw:m.wrong=0
 ·have hl:=fun W (h:Below w.heap.size w W)=>Juu m a W (hm.later h) aw (Im.right hw);rw [hw] at aN
  by_cases hb:2016<(Jba m).length
  ·have hv:Jdl m=([],3):=by unfold Jdl;rw [if_neg (fun h=>h hw),if_pos hb]
   have tb:(2016:Int)<((Jba m).length:Int):=by omega
   rw [hv];obtain⟨A1,c1,A2,c2,A3,c3⟩:=a;unfold imV at *;dsimp only at *;generalize (Jba m).length=n at *;clear hm aw hw hb hv
   go_enter Tryz.func12,Tryz.ntmps12
   go_wp2_with (first
    | (go_at_call 14;go_loud (refine(aN _ Jb).mono ?_;rintro r w1 ⟨rfl,ac⟩;have k0:=Jg ac))
    | (go_at_call 30;go_loud (refine(hl _ Jb).mono ?_;rintro r w2 ⟨⟨A,cap,rfl,-⟩,aq⟩)))
   go_ret2
   exact⟨⟨none,0,rfl⟩,Jb⟩
  ·have hv:Jdl m=(Jba m,0):=by unfold Jdl;rw [if_neg (fun h=>h hw),if_neg hb]
   have tb:¬(2016:Int)<((Jba m).length:Int):=by omega
   rw [hv];obtain⟨A1,c1,A2,c2,A3,c3⟩:=a;unfold imV at *;dsimp only at *;generalize (Jba m).length=n at *;clear hm aw hw hb hv
   go_enter Tryz.func12,Tryz.ntmps12
   go_wp2_with (first
    | (go_at_call 14;go_loud (refine(aN _ Jb).mono ?_;rintro r w1 ⟨rfl,ac⟩;have k0:=Jg ac))
    | (go_at_call 30;go_loud (refine(hl _ Jb).mono ?_;rintro r w2 ⟨⟨A,cap,rfl,-⟩,aq⟩)))
   go_ret2
   exact⟨⟨A,cap,rfl⟩,Jb⟩
 ·have hv:Jdl m=([],m.wrong):=by unfold Jdl;rw [if_pos hw]
  have tw:(m.wrong != 0)=true:=by simpa using hw
  rw [hv];obtain⟨A1,c1,A2,c2,A3,c3⟩:=a;unfold imV at *;dsimp only at *;generalize m.wrong=e at *;clear hm aw hw hv
  go_enter Tryz.func12,Tryz.ntmps12
  go_wp2_with (go_at_call 14;go_loud (refine(aN _ Jb).mono ?_;rintro r w1 ⟨rfl,ac⟩))
  go_ret2
  exact⟨⟨none,0,rfl⟩,Jb⟩
theorem Jry {W:World} {b o:Nat} {v:Value} (h:W.cell? ⟨b,o,none⟩=some v):W.setCell ⟨b,o,none⟩ v=W:=by
 obtain⟨c,e,fr,h1,h2⟩:=cells_of_cell? h
 have hh:(W.setCell ⟨b,o,none⟩ v).heap=W.heap:=by
  unfold World.setCell;dsimp only;apply Array.ext
  ·simp
  ·intro i h3 h4;rw [Array.getElem_modify]
   split
   ·rename_i hi;subst hi;obtain⟨h5,h6⟩:=Array.getElem?_eq_some_iff.1 h1;rw [h6];simp only [Option.isSome_none,Bool.false_eq_true,if_false]
    have:c.setIfInBounds o v=c:=by
     obtain⟨h7,h8⟩:=Array.getElem?_eq_some_iff.1 h2;apply Array.ext
     ·simp
     ·intro j h9 bM;rw [Array.getElem_setIfInBounds]
      split
      ·rename_i hj;subst hj;exact h8.symm
      ·rfl
    rw [this]
   ·rfl
 unfold World.setCell at hh ⊢;dsimp only at hh;rw [hh]
theorem Jiw (W:World):Jd5 W Im.zero ⟨none,0,none,0,none,0⟩:=⟨Qc.nil _,Jar _,Jar _⟩
theorem J3.set {V W:World} {l:List (Int×Int)} {A:Option Addr} {cap:Nat} (h0:J3 V l A cap) (h:J3 W l A cap) {g:Nat} (hg:V.heap.size<=g) (o:Nat) (u:Value):J3 (W.setCell ⟨g,o,none⟩ u) l A cap:=by
 refine⟨h.1,h.2.1,h.2.2.1,fun hm=>?_⟩;obtain⟨b,off,hA,hc⟩:=h.2.2.2 hm;obtain⟨b',off',lL,hc'⟩:=h0.2.2.2 hm;rw [hA] at lL;simp only [Option.some.injEq,Addr.mk.injEq] at lL;have aH:=lL.1;refine⟨b,off,hA,fun j u hj=>(Qm _ _ _ _ _ _ ?_).trans (hc j u hj)⟩;have am:b'<V.heap.size:=block_lt_of_cell (hc' j u hj);omega
theorem J3.off {W:World} {l:List (Int×Int)} {A:Option Addr} {cap:Nat} (h:J3 W l A cap) {g:Nat} (hg:∀b off,A=some ⟨b,off,none⟩->b≠g) (o:Nat) (u:Value):J3 (W.setCell ⟨g,o,none⟩ u) l A cap:=by
 refine⟨h.1,h.2.1,h.2.2.1,fun hm=>?_⟩;obtain⟨b,off,hA,hc⟩:=h.2.2.2 hm;exact⟨b,off,hA,fun j u hj=>(Qm _ _ _ _ _ _ (hg b off hA)).trans (hc j u hj)⟩
def zIm:List Value:=[.int .u32 0,.int .u32 0,.int .i64 0,.int .i64 0,.int .i64 0,.int .i64 0,.int .i64 0,.int .i64 0,.slice none 0 0,.slice none 0 0,.slice none 0 0,.int .i64 0,.int .i64 0]
structure Ja9 (w W:World):Prop where
 bel:Below w.heap.size w W
 z:∀(o:Nat) (u:Value),zIm[o]?=some u->W.cell? ⟨w.heap.size+1,o,none⟩=some u
 fz:∀o,W.frozen? ⟨w.heap.size+1,o,none⟩=false
 f:W.cell? ⟨w.heap.size+1+1,0,none⟩=some (.int .i64 0)/\W.cell? ⟨w.heap.size+1+1,1,none⟩=some (.int .i64 0)/\W.cell? ⟨w.heap.size+1+1,2,none⟩=some (.int .i64 0)
 ff:∀o,W.frozen? ⟨w.heap.size+1+1,o,none⟩=false
 lt:w.heap.size+3<=W.heap.size
theorem Ja9.later {w W W':World} (h:Ja9 w W) (hb:Below W.heap.size W W'):Ja9 w W':=by
 have hl:=h.lt;exact⟨Jd h.bel hb,fun o u ho=>Ja hb (h.z o u ho),fun o=>(Jf hb _ _ (by omega)).trans (h.fz o),⟨Ja hb h.f.1,Ja hb h.f.2.1,Ja hb h.f.2.2⟩,fun o=>(Jf hb _ _ (by omega)).trans (h.ff o),by have:=hb.size;omega⟩
theorem Ja9.set {w W:World} (h:Ja9 w W) {b:Nat} (hb:w.heap.size+3<=b) (o:Nat) (u:Value):Ja9 w (W.setCell ⟨b,o,none⟩ u):=
 ⟨Below.setCell h.bel (show w.heap.size<=b by omega) _,fun o' u' ho=>(Qm _ _ _ _ _ _ (by omega)).trans (h.z o' u' ho),fun o'=>(World.frozen?_setCell ..).trans (h.fz o'),⟨(Qm _ _ _ _ _ _ (by omega)).trans h.f.1,(Qm _ _ _ _ _ _ (by omega)).trans h.f.2.1,(Qm _ _ _ _ _ _ (by omega)).trans h.f.2.2⟩,fun o'=>(World.frozen?_setCell ..).trans (h.ff o'),by simpa using h.lt⟩
theorem Ja9.new (w:World) (p:Array Value) (t:TypeId) (t2 t3:TypeId):Ja9 w (((w.alloc (.cells p t)).alloc (.cells zIm.toArray t2)).alloc (.cells #[.int .i64 0,.int .i64 0,.int .i64 0] t3)):=by
 have e1:(w.alloc (.cells p t)).heap.size=w.heap.size+1:=by simp
 have e2:((w.alloc (.cells p t)).alloc (.cells zIm.toArray t2)).heap.size=w.heap.size+1+1:=by simp
 refine⟨Jb,fun o u ho=>?_,fun o=>by go_simp,⟨by go_simp,by go_simp,by go_simp⟩,fun o=>by go_simp,by simp⟩;have h1:=Kw (w.alloc (.cells p t)) zIm.toArray t2 o;rw [e1] at h1;exact J4 (h1.trans (by simpa using ho))
theorem Jvd {p:Pr} (h:(Xg p).2.2=(0,0,0)):Ks p=(0,0,0)/\¬16<(Jq p).length/\¬600<(Xs p).length/\Xg p=(Xs p,(((Je p).length:Int),((Jq p).length:Int),((Jq p).length:Int),(p.ins.length:Int),(p.outs.length:Int)),(0,0,0)):=by
 unfold Xg at h ⊢
 by_cases hc:(Kf p).2=(0,0,0)
 ·rw [if_pos hc] at h ⊢
  by_cases h6:600<(Xs p).length
  ·rw [if_pos h6] at h;exact absurd (show((4:Int),(0:Int),(3:Int))=(0,0,0) from h) (by decide)
  ·rw [if_neg h6];exact⟨(Jbb hc).1,(Jbb hc).2,h6,rfl⟩
 ·rw [if_neg hc] at h;exact absurd h hc
theorem Jiy (p:Pr) (a:PrA) (v:Int) (w:World) (hg:Ql w) (hp:Kr w p a) (aw:Ke5 p) (n1:p.ins.length<=1000000) (n2:p.outs.length<=1000000) (n3:p.locals.length<=1000000) (n4:p.eqs.length<=1000000) (hv:0<=v/\v<4294967296) :
  Calls Tryz.prog 34 #[prV p a,.int .u32 v] w fun r w'=>(∃ia,r = .returned (.tuple #[imV (imE p v).1 ia,fV (imE p v).2])/\Jd5 w' (imE p v).1 ia)/\Below w.heap.size w w':=by
 have aZ:=fun W h=>Jof p a W (hg.later h) (hp.later h) aw n1 n2 n3 n4;have hsid:∀(W:World) (b o:Nat) (v:Value),W.cell? ⟨b,o,none⟩=some v->W.setCell ⟨b,o,none⟩ v=W:=fun _ _ _ _ h=>Jry h;have fM:Tryz.prog.eqGuardType Tryz.prog.depth 32=false:=by kernel_rfl
 by_cases hf:(Xg p).2.2=(0,0,0)
 ·obtain⟨hS,tY,lR,et⟩:=Jvd hf;have bO:=Jff hS;rw [et] at aZ;have dp:∀w,(Op.equalIn 10000 32 (.agg #[.int .i64 0,.int .i64 0,.int .i64 0]) (.agg #[.int .i64 0,.int .i64 0,.int .i64 0])).run Tryz.prog w = .ok true w:=fun w=>by rw [Zr];rfl
  by_cases dD:v=0
  ·subst dD;have hv:imE p 0=(Im.zero,(4,0,1)):=by unfold imE;rw [if_neg (fun h=>h hf),if_pos rfl]
   rw [hv];obtain⟨A1,c1,A2,c2,A3,c3,A4,c4⟩:=a;unfold prV fV frT at *;dsimp only at *;clear hg hp aw hf hv et bO;generalize (Je p).length=nv at *;generalize (Jq p).length=nc at *;generalize Xs p=cl at *
   go_enter Tryz.func34,Tryz.ntmps34
   go_upto_region 2 with (go_at_call 72;go_loud (refine(aZ _ Jb).mono ?_;rintro r wa ⟨⟨A,cap,rfl,aY,lS⟩,aA⟩))
   refine Jo fun V hV=>?_;have hi:Ja9 w V:=by rw [hV];exact(((Ja9.new w _ _ _ _).later aA).later (Jc (Jc (Below.refl _ _) _) _))
   have s0:V.cell? ⟨wa.heap.size+1,0,none⟩=some (.int .i64 0):=by rw [hV];go_simp
   have s1:V.cell? ⟨wa.heap.size+1,1,none⟩=some (.int .i64 0):=by rw [hV];go_simp
   have s2:V.cell? ⟨wa.heap.size+1,2,none⟩=some (.int .i64 0):=by rw [hV];go_simp
   have z0:V.cell? ⟨w.heap.size+1,0,none⟩=some (.int .u32 0):=hi.z 0 _ rfl;have z1:V.cell? ⟨w.heap.size+1,1,none⟩=some (.int .u32 0):=hi.z 1 _ rfl;have z2:V.cell? ⟨w.heap.size+1,2,none⟩=some (.int .i64 0):=hi.z 2 _ rfl;have z3:V.cell? ⟨w.heap.size+1,3,none⟩=some (.int .i64 0):=hi.z 3 _ rfl;have z4:V.cell? ⟨w.heap.size+1,4,none⟩=some (.int .i64 0):=hi.z 4 _ rfl;have z5:V.cell? ⟨w.heap.size+1,5,none⟩=some (.int .i64 0):=hi.z 5 _ rfl;have z6:V.cell? ⟨w.heap.size+1,6,none⟩=some (.int .i64 0):=hi.z 6 _ rfl;have z7:V.cell? ⟨w.heap.size+1,7,none⟩=some (.int .i64 0):=hi.z 7 _ rfl;have z8:V.cell? ⟨w.heap.size+1,8,none⟩=some (.slice none 0 0):=hi.z 8 _ rfl;have z9:V.cell? ⟨w.heap.size+1,9,none⟩=some (.slice none 0 0):=hi.z 9 _ rfl;have z10:V.cell? ⟨w.heap.size+1,10,none⟩=some (.slice none 0 0):=hi.z 10 _ rfl;have z11:V.cell? ⟨w.heap.size+1,11,none⟩=some (.int .i64 0):=hi.z 11 _ rfl;have z12:V.cell? ⟨w.heap.size+1,12,none⟩=some (.int .i64 0):=hi.z 12 _ rfl;have y0:V.frozen? ⟨w.heap.size+1,0,none⟩=false:=hi.fz 0;have y1:V.frozen? ⟨w.heap.size+1,1,none⟩=false:=hi.fz 1;have y2:V.frozen? ⟨w.heap.size+1,2,none⟩=false:=hi.fz 2;have y3:V.frozen? ⟨w.heap.size+1,3,none⟩=false:=hi.fz 3;have y4:V.frozen? ⟨w.heap.size+1,4,none⟩=false:=hi.fz 4;have y5:V.frozen? ⟨w.heap.size+1,5,none⟩=false:=hi.fz 5;have y6:V.frozen? ⟨w.heap.size+1,6,none⟩=false:=hi.fz 6;have y7:V.frozen? ⟨w.heap.size+1,7,none⟩=false:=hi.fz 7;have y8:V.frozen? ⟨w.heap.size+1,8,none⟩=false:=hi.fz 8;have y9:V.frozen? ⟨w.heap.size+1,9,none⟩=false:=hi.fz 9;have y10:V.frozen? ⟨w.heap.size+1,10,none⟩=false:=hi.fz 10;have y11:V.frozen? ⟨w.heap.size+1,11,none⟩=false:=hi.fz 11;have y12:V.frozen? ⟨w.heap.size+1,12,none⟩=false:=hi.fz 12;have f0:V.cell? ⟨w.heap.size+1+1,0,none⟩=some (.int .i64 0):=hi.f.1;have f1:V.cell? ⟨w.heap.size+1+1,1,none⟩=some (.int .i64 0):=hi.f.2.1;have f2:V.cell? ⟨w.heap.size+1+1,2,none⟩=some (.int .i64 0):=hi.f.2.2;have ff0:V.frozen? ⟨w.heap.size+1+1,0,none⟩=false:=hi.ff 0;have ff1:V.frozen? ⟨w.heap.size+1+1,1,none⟩=false:=hi.ff 1;have ff2:V.frozen? ⟨w.heap.size+1+1,2,none⟩=false:=hi.ff 2;have HI:=Lib.hid hi;clear hV hi aZ
   go_wp2_with fail
   refine bodyPost_ret (v:= .tuple #[.agg #[.int .u32 0,.int .u32 0,.int .i64 0,.int .i64 0,.int .i64 0,.int .i64 0,.int .i64 0,.int .i64 0,.slice none 0 0,.slice none 0 0,.slice none 0 0,.int .i64 0,.int .i64 0],.agg #[.int .i64 4,.int .i64 0,.int .i64 1]]) (by simp [results,Tryz.results34,go_sem, *]) rfl ⟨⟨⟨none,0,none,0,none,0⟩,rfl,Jiw _⟩,?_⟩;exact Below.setCell (Below.setCell HI.out.bel (show w.heap.size<=w.heap.size+1+1 by omega) _) (show w.heap.size<=w.heap.size+1+1 by omega) _
  ·have tv:(v == 0)=false:=by simpa using dD
   have gR:=fun W h=>Jqm p a W (hg.later h) (hp.later h) aw n1 n2 n3 n4;rw [show Kf p=(Jq p,(0,0,0)) by unfold Kf;rw [if_pos hS,if_neg tY]] at gR;have hN:=Jvr bO aw tY;have hF:=Jt7 aw;have sB:Jsj (Jd8 p v):=⟨hv,by unfold Jd8;dsimp only;omega,hF,hN,fun i hi=>by cases hi⟩;have hie:imE p v=if (Jdl (Jd8 p v)).2≠0 then(Im.zero,(4,0,(Jdl (Jd8 p v)).2)) else(Jd8 p v,(0,0,0)):=by unfold imE;rw [if_neg (fun h=>h hf),if_neg dD]
   have pl:=fun A cap W h=>Jmz (Xs p) A cap (Jke p) W h hN;have yj:(Jq p).map (fun c=>Value.int .i32 c.first)=nuI ((Jq p).map (·.first)):=by unfold nuI;rw [List.map_map];rfl
   rw [yj] at gR
   have tZ:=fun(A:Option Addr) (cap:Nat) (A5:Option Addr) (c5:Nat) W (h1:Qc W (nuI ((Jq p).map (·.first))) (Jq p).length A5 c5) (h2:J3 W (Xs p) A cap)=>
    Jos (Jd8 p v) ⟨A5,c5,A,cap,none,0⟩ W ⟨by show Qc W (nuI ((Jq p).map (·.first))) ((Jq p).map (·.first)).length A5 c5;rw [List.length_map];exact h1,h2,Jar _⟩ sB
   have jP:∀(A:Option Addr) (cap:Nat) (A5:Option Addr) (c5:Nat),imV (Jd8 p v) ⟨A5,c5,A,cap,none,0⟩ = .agg #[.int .u32 v,.int .u32 0,.int .i64 0,.int .i64 (Je p).length,.int .i64 (Jq p).length,.int .i64 (Jq p).length,.int .i64 p.ins.length,.int .i64 p.outs.length,.slice A5 (Jq p).length c5,.slice A (Xs p).length cap,.slice none 0 0,.int .i64 (Yi (Xs p) (Jke p)).1.2,.int .i64 0]:=fun A cap A5 c5=>by
    unfold imV Jd8 Jke;simp
   have yk:frV (Jke p) = .agg #[.int .i64 (Je p).length,.int .i64 (Jq p).length,.int .i64 (Jq p).length,.int .i64 p.ins.length,.int .i64 p.outs.length]:=rfl;rw [yk] at pl;simp only [jP] at tZ;obtain⟨A1,c1,A2,c2,A3,c3,A4,c4⟩:=a;unfold prV fV frT Jk7 at *;dsimp only at *;rw [hie];clear hg hp aw hf hie et bO hv hN hF sB yj yk tY lR hS;have ni0:True:=trivial;generalize hee:Jdl (Jd8 p v)=E at *;generalize hjj:Yi (Xs p) (Jke p)=J at *;have fY:=Lib.hid jP;clear jP hee;generalize cp:nuI ((Jq p).map (·.first))=nu at *;generalize yl:Xs p=cl at *;have HNU:=Lib.hid cp;have mK:=Lib.hid yl;clear cp yl hjj ni0;generalize jq:(Je p).length=nv at *;generalize xz:(Jq p).length=nc at *;generalize hni:p.ins.length=ni at *;generalize oG:p.outs.length=no at *;clear jq;have HNC:=Lib.hid xz;clear xz hni oG;obtain⟨El,Ee⟩:=E;dsimp only at *
   by_cases he:Ee=0
   ·subst he;rw [if_neg (by decide)]
    go_enter Tryz.func34,Tryz.ntmps34
    go_upto_region 2 with (go_at_call 72;go_loud (refine(aZ _ Jb).mono ?_;rintro r wa ⟨⟨A,cap,rfl,aY,lS⟩,aA⟩))
    refine Jo fun V hV=>?_;have bK:Below wa.heap.size wa V:=by rw [hV];exact Jc (Jc (Below.refl _ _) _) _
    have hi:Ja9 w V:=by rw [hV];exact(((Ja9.new w _ _ _ _).later aA).later (Jc (Jc (Below.refl _ _) _) _))
    have s0:V.cell? ⟨wa.heap.size+1,0,none⟩=some (.int .i64 0):=by rw [hV];go_simp
    have s1:V.cell? ⟨wa.heap.size+1,1,none⟩=some (.int .i64 0):=by rw [hV];go_simp
    have s2:V.cell? ⟨wa.heap.size+1,2,none⟩=some (.int .i64 0):=by rw [hV];go_simp
    have k0:V.cell? ⟨wa.heap.size,0,none⟩=some (.int .i64 nv):=by rw [hV];go_simp
    have k1:V.cell? ⟨wa.heap.size,1,none⟩=some (.int .i64 nc):=by rw [hV];go_simp
    have k2:V.cell? ⟨wa.heap.size,2,none⟩=some (.int .i64 nc):=by rw [hV];go_simp
    have k3:V.cell? ⟨wa.heap.size,3,none⟩=some (.int .i64 ni):=by rw [hV];go_simp
    have k4:V.cell? ⟨wa.heap.size,4,none⟩=some (.int .i64 no):=by rw [hV];go_simp
    have p0:V.cell? ⟨w.heap.size,0,none⟩=some (.string p.name):=Ja bK (Ja aA (by go_simp));have p1:V.cell? ⟨w.heap.size,1,none⟩=some (.slice A1 ni c1):=Ja bK (Ja aA (by go_simp));have p2:V.cell? ⟨w.heap.size,2,none⟩=some (.slice A2 no c2):=Ja bK (Ja aA (by go_simp));have p3:V.cell? ⟨w.heap.size,3,none⟩=some (.slice A3 p.locals.length c3):=Ja bK (Ja aA (by go_simp));have p4:V.cell? ⟨w.heap.size,4,none⟩=some (.slice A4 p.eqs.length c4):=Ja bK (Ja aA (by go_simp));have cN:w.heap.size+3<=wa.heap.size:=by have:=aA.size;simpa using this
    have mQ:wa.heap.size+2<=V.heap.size:=by rw [hV];simp
    have HI:=Lib.hid hi;have kO:∀b off,A=some ⟨b,off,none⟩->w.heap.size+3<=b:=fun b off h=>by have:=lS b off h;simpa using this
    have yn:=Lib.hid kO;clear lS kO;have ua:=Lib.hid (aY.later bK);have lu:w.heap.size<V.heap.size:=by omega
    clear hV hi aZ aY bK aA
    go_upto_region 7 with fail
    refine Jo fun V2 bz=>?_;have aq:Below V.heap.size V V2:=by rw [bz];exact Jc (Below.refl _ _) _
    have m0:V2.cell? ⟨V.heap.size,0,none⟩=some (.int .u32 v):=by rw [bz];go_simp
    have m1:V2.cell? ⟨V.heap.size,1,none⟩=some (.int .u32 0):=by rw [bz];go_simp
    have m2:V2.cell? ⟨V.heap.size,2,none⟩=some (.int .i64 0):=by rw [bz];go_simp
    have m3:V2.cell? ⟨V.heap.size,3,none⟩=some (.int .i64 nv):=by rw [bz];go_simp
    have m4:V2.cell? ⟨V.heap.size,4,none⟩=some (.int .i64 nc):=by rw [bz];go_simp
    have m5:V2.cell? ⟨V.heap.size,5,none⟩=some (.int .i64 nc):=by rw [bz];go_simp
    have m6:V2.cell? ⟨V.heap.size,6,none⟩=some (.int .i64 ni):=by rw [bz];go_simp
    have m7:V2.cell? ⟨V.heap.size,7,none⟩=some (.int .i64 no):=by rw [bz];go_simp
    have m8:V2.cell? ⟨V.heap.size,8,none⟩=some (.slice none 0 0):=by rw [bz];go_simp
    have m9:V2.cell? ⟨V.heap.size,9,none⟩=some (.slice A cl.length cap):=by rw [bz];go_simp
    have m10:V2.cell? ⟨V.heap.size,10,none⟩=some (.slice none 0 0):=by rw [bz];go_simp
    have m11:V2.cell? ⟨V.heap.size,11,none⟩=some (.int .i64 0):=by rw [bz];go_simp
    have m12:V2.cell? ⟨V.heap.size,12,none⟩=some (.int .i64 0):=by rw [bz];go_simp
    have g8:V2.frozen? ⟨V.heap.size,8,none⟩=false:=by rw [bz];go_simp
    have g11:V2.frozen? ⟨V.heap.size,11,none⟩=false:=by rw [bz];go_simp
    have br:V.heap.size<V2.heap.size:=by rw [bz];simp
    replace p0:=Ja aq p0;replace p1:=Ja aq p1;replace p2:=Ja aq p2;replace p3:=Ja aq p3;replace p4:=Ja aq p4;replace k0:=Ja aq k0;replace k1:=Ja aq k1;replace k2:=Ja aq k2;replace k3:=Ja aq k3;replace k4:=Ja aq k4;have mU:=Lib.hid (HI.out.later aq);have pn:=Lib.hid (ua.out.later aq);have po:=Lib.hid ua.out;clear bz aq s0 s1 s2 HI ua
    go_upto_region 8 with (go_at_call 73;go_loud (refine(gR _ mU.out.bel).mono ?_;rintro r wf ⟨⟨vf,rfl,gw⟩,bZ⟩;obtain⟨A5,c5,rfl,ub⟩:=Qc.of_own gw;have n8:=Ja bZ m8;have o8:wf.frozen? ⟨V.heap.size,8,none⟩=false:=(Jf bZ _ _ br).trans g8))
    refine Jo fun V3 dl=>?_;have eq:=bZ.size;have aE:V3.ownsRow V2.heap.size 21 1 (.slice A5 nc c5) nc nu:=by rw [dl];exact Kn gw (fun b hb he=>by have:=(gw.lt b hb).1;omega) _ _
    have lT:Hid (J3 V3 cl A cap):=by rw [dl];exact Lib.hid (J3.set po.out (pn.out.later bZ) (Nat.le_refl _) _ _)
    have lQ:Hid (Ja9 w V3):=by rw [dl];exact Lib.hid ((mU.out.later bZ).set (by omega) _ _)
    have r0:V3.cell? ⟨V.heap.size,0,none⟩=some (.int .u32 v):=by rw [dl,J5 _ _ _ _ _ (by decide)];exact Ja bZ m0
    have r1:V3.cell? ⟨V.heap.size,1,none⟩=some (.int .u32 0):=by rw [dl,J5 _ _ _ _ _ (by decide)];exact Ja bZ m1
    have r2:V3.cell? ⟨V.heap.size,2,none⟩=some (.int .i64 0):=by rw [dl,J5 _ _ _ _ _ (by decide)];exact Ja bZ m2
    have r3:V3.cell? ⟨V.heap.size,3,none⟩=some (.int .i64 nv):=by rw [dl,J5 _ _ _ _ _ (by decide)];exact Ja bZ m3
    have r4:V3.cell? ⟨V.heap.size,4,none⟩=some (.int .i64 nc):=by rw [dl,J5 _ _ _ _ _ (by decide)];exact Ja bZ m4
    have r5:V3.cell? ⟨V.heap.size,5,none⟩=some (.int .i64 nc):=by rw [dl,J5 _ _ _ _ _ (by decide)];exact Ja bZ m5
    have r6:V3.cell? ⟨V.heap.size,6,none⟩=some (.int .i64 ni):=by rw [dl,J5 _ _ _ _ _ (by decide)];exact Ja bZ m6
    have r7:V3.cell? ⟨V.heap.size,7,none⟩=some (.int .i64 no):=by rw [dl,J5 _ _ _ _ _ (by decide)];exact Ja bZ m7
    have r8:V3.cell? ⟨V.heap.size,8,none⟩=some (.slice A5 nc c5):=by rw [dl];exact World.cell?_setCell_same _ _ _ (Ja bZ m8)
    have r9:V3.cell? ⟨V.heap.size,9,none⟩=some (.slice A cl.length cap):=by rw [dl,J5 _ _ _ _ _ (by decide)];exact Ja bZ m9
    have r10:V3.cell? ⟨V.heap.size,10,none⟩=some (.slice none 0 0):=by rw [dl,J5 _ _ _ _ _ (by decide)];exact Ja bZ m10
    have r11:V3.cell? ⟨V.heap.size,11,none⟩=some (.int .i64 0):=by rw [dl,J5 _ _ _ _ _ (by decide)];exact Ja bZ m11
    have r12:V3.cell? ⟨V.heap.size,12,none⟩=some (.int .i64 0):=by rw [dl,J5 _ _ _ _ _ (by decide)];exact Ja bZ m12
    have g11':V3.frozen? ⟨V.heap.size,11,none⟩=false:=by rw [dl,World.frozen?_setCell];exact(Jf bZ _ _ br).trans g11
    replace k0:V3.cell? ⟨wa.heap.size,0,none⟩=some (.int .i64 nv):=by rw [dl,Qm _ _ _ _ _ _ (by omega)];exact Ja bZ k0
    replace k1:V3.cell? ⟨wa.heap.size,1,none⟩=some (.int .i64 nc):=by rw [dl,Qm _ _ _ _ _ _ (by omega)];exact Ja bZ k1
    replace k2:V3.cell? ⟨wa.heap.size,2,none⟩=some (.int .i64 nc):=by rw [dl,Qm _ _ _ _ _ _ (by omega)];exact Ja bZ k2
    replace k3:V3.cell? ⟨wa.heap.size,3,none⟩=some (.int .i64 ni):=by rw [dl,Qm _ _ _ _ _ _ (by omega)];exact Ja bZ k3
    replace k4:V3.cell? ⟨wa.heap.size,4,none⟩=some (.int .i64 no):=by rw [dl,Qm _ _ _ _ _ _ (by omega)];exact Ja bZ k4
    have fe:V2.heap.size<=V3.heap.size:=by rw [dl];simpa using eq
    have kI:V.heap.size<V3.heap.size:=by omega
    have iK:=Lib.hid aE;clear dl ub gw gR m0 m1 m2 m3 m4 m5 m6 m7 m8 m9 m10 m11 m12 g8 g11 n8 o8 p0 p1 p2 p3 p4 aE bZ pn mU
    go_upto_region 10 with (go_at_call 29;go_loud (refine(pl A cap _ lT.out).mono ?_;rintro r wj ⟨rfl,dQ⟩;have q11:=Ja dQ r11;have o11:wj.frozen? ⟨V.heap.size,11,none⟩=false:=(Jf dQ _ _ kI).trans g11';have hzj:V.heap.size<wj.heap.size:=(by have:=dQ.size;omega)))
    refine Jo fun V4 eE=>?_;have hzj2:=dQ.size;have cj:V4.ownsRow V2.heap.size 21 1 (.slice A5 nc c5) nc nu:=by rw [eE];exact Js (Kn (Jy iK.out dQ) (fun b hb he=>by have:=(iK.out.lt b hb).1;omega) _ _)
    have lU:Hid (J3 V4 cl A cap):=by rw [eE];exact Lib.hid ((J3.set po.out (lT.out.later dQ) (Nat.le_refl _) _ _).later (Jc (Below.refl _ _) _))
    have qP:Hid (Ja9 w V4):=by rw [eE];exact Lib.hid (((lQ.out.later dQ).set (by omega) _ _).later (Jc (Below.refl _ _) _))
    have t0:V4.cell? ⟨V.heap.size,0,none⟩=some (.int .u32 v):=by rw [eE];exact J4 ((J5 _ _ _ _ _ (by decide)).trans (Ja dQ r0))
    have t1:V4.cell? ⟨V.heap.size,1,none⟩=some (.int .u32 0):=by rw [eE];exact J4 ((J5 _ _ _ _ _ (by decide)).trans (Ja dQ r1))
    have t2:V4.cell? ⟨V.heap.size,2,none⟩=some (.int .i64 0):=by rw [eE];exact J4 ((J5 _ _ _ _ _ (by decide)).trans (Ja dQ r2))
    have t3:V4.cell? ⟨V.heap.size,3,none⟩=some (.int .i64 nv):=by rw [eE];exact J4 ((J5 _ _ _ _ _ (by decide)).trans (Ja dQ r3))
    have t4:V4.cell? ⟨V.heap.size,4,none⟩=some (.int .i64 nc):=by rw [eE];exact J4 ((J5 _ _ _ _ _ (by decide)).trans (Ja dQ r4))
    have t5:V4.cell? ⟨V.heap.size,5,none⟩=some (.int .i64 nc):=by rw [eE];exact J4 ((J5 _ _ _ _ _ (by decide)).trans (Ja dQ r5))
    have t6:V4.cell? ⟨V.heap.size,6,none⟩=some (.int .i64 ni):=by rw [eE];exact J4 ((J5 _ _ _ _ _ (by decide)).trans (Ja dQ r6))
    have t7:V4.cell? ⟨V.heap.size,7,none⟩=some (.int .i64 no):=by rw [eE];exact J4 ((J5 _ _ _ _ _ (by decide)).trans (Ja dQ r7))
    have t8:V4.cell? ⟨V.heap.size,8,none⟩=some (.slice A5 nc c5):=by rw [eE];exact J4 ((J5 _ _ _ _ _ (by decide)).trans (Ja dQ r8))
    have t9:V4.cell? ⟨V.heap.size,9,none⟩=some (.slice A cl.length cap):=by rw [eE];exact J4 ((J5 _ _ _ _ _ (by decide)).trans (Ja dQ r9))
    have t10:V4.cell? ⟨V.heap.size,10,none⟩=some (.slice none 0 0):=by rw [eE];exact J4 ((J5 _ _ _ _ _ (by decide)).trans (Ja dQ r10))
    have t11:V4.cell? ⟨V.heap.size,11,none⟩=some (.int .i64 J.1.2):=by rw [eE];exact J4 (World.cell?_setCell_same _ _ _ (Ja dQ r11))
    have t12:V4.cell? ⟨V.heap.size,12,none⟩=some (.int .i64 0):=by rw [eE];exact J4 ((J5 _ _ _ _ _ (by decide)).trans (Ja dQ r12))
    have qS:V.heap.size<V4.heap.size:=by rw [eE];simp;omega
    have iL:=Lib.hid cj;clear eE r0 r1 r2 r3 r4 r5 r6 r7 r8 r9 r10 r11 r12 g11' cj iK lT lQ pl q11 o11 k0 k1 k2 k3 k4 dQ
    go_upto_region 11 with (go_at_call 12;go_loud (refine(tZ A cap A5 c5 _ (Qc.own2 iL.out) lU.out).mono ?_;rintro r we ⟨⟨Ae,ce,rfl⟩,ef⟩))
    refine Jo fun V5 gy=>?_;have da:Below V4.heap.size V4 V5:=by rw [gy];exact ef
    have bP:=qP.out.later da;have z0:V5.cell? ⟨w.heap.size+1,0,none⟩=some (.int .u32 0):=bP.z 0 _ rfl;have z1:V5.cell? ⟨w.heap.size+1,1,none⟩=some (.int .u32 0):=bP.z 1 _ rfl;have z2:V5.cell? ⟨w.heap.size+1,2,none⟩=some (.int .i64 0):=bP.z 2 _ rfl;have z3:V5.cell? ⟨w.heap.size+1,3,none⟩=some (.int .i64 0):=bP.z 3 _ rfl;have z4:V5.cell? ⟨w.heap.size+1,4,none⟩=some (.int .i64 0):=bP.z 4 _ rfl;have z5:V5.cell? ⟨w.heap.size+1,5,none⟩=some (.int .i64 0):=bP.z 5 _ rfl;have z6:V5.cell? ⟨w.heap.size+1,6,none⟩=some (.int .i64 0):=bP.z 6 _ rfl;have z7:V5.cell? ⟨w.heap.size+1,7,none⟩=some (.int .i64 0):=bP.z 7 _ rfl;have z8:V5.cell? ⟨w.heap.size+1,8,none⟩=some (.slice none 0 0):=bP.z 8 _ rfl;have z9:V5.cell? ⟨w.heap.size+1,9,none⟩=some (.slice none 0 0):=bP.z 9 _ rfl;have z10:V5.cell? ⟨w.heap.size+1,10,none⟩=some (.slice none 0 0):=bP.z 10 _ rfl;have z11:V5.cell? ⟨w.heap.size+1,11,none⟩=some (.int .i64 0):=bP.z 11 _ rfl;have z12:V5.cell? ⟨w.heap.size+1,12,none⟩=some (.int .i64 0):=bP.z 12 _ rfl;have y0:V5.frozen? ⟨w.heap.size+1,0,none⟩=false:=bP.fz 0;have y1:V5.frozen? ⟨w.heap.size+1,1,none⟩=false:=bP.fz 1;have y2:V5.frozen? ⟨w.heap.size+1,2,none⟩=false:=bP.fz 2;have y3:V5.frozen? ⟨w.heap.size+1,3,none⟩=false:=bP.fz 3;have y4:V5.frozen? ⟨w.heap.size+1,4,none⟩=false:=bP.fz 4;have y5:V5.frozen? ⟨w.heap.size+1,5,none⟩=false:=bP.fz 5;have y6:V5.frozen? ⟨w.heap.size+1,6,none⟩=false:=bP.fz 6;have y7:V5.frozen? ⟨w.heap.size+1,7,none⟩=false:=bP.fz 7;have y8:V5.frozen? ⟨w.heap.size+1,8,none⟩=false:=bP.fz 8;have y9:V5.frozen? ⟨w.heap.size+1,9,none⟩=false:=bP.fz 9;have y10:V5.frozen? ⟨w.heap.size+1,10,none⟩=false:=bP.fz 10;have y11:V5.frozen? ⟨w.heap.size+1,11,none⟩=false:=bP.fz 11;have y12:V5.frozen? ⟨w.heap.size+1,12,none⟩=false:=bP.fz 12;have f0:V5.cell? ⟨w.heap.size+1+1,0,none⟩=some (.int .i64 0):=bP.f.1;have f1:V5.cell? ⟨w.heap.size+1+1,1,none⟩=some (.int .i64 0):=bP.f.2.1;have f2:V5.cell? ⟨w.heap.size+1+1,2,none⟩=some (.int .i64 0):=bP.f.2.2;have ff0:V5.frozen? ⟨w.heap.size+1+1,0,none⟩=false:=bP.ff 0;have ff1:V5.frozen? ⟨w.heap.size+1+1,1,none⟩=false:=bP.ff 1;have ff2:V5.frozen? ⟨w.heap.size+1+1,2,none⟩=false:=bP.ff 2;have wK:=Lib.hid bP;have sC:=Lib.hid (Jy iL.out da);have yo:=Lib.hid (lU.out.later da);have x0:V5.cell? ⟨V.heap.size,0,none⟩=some (.int .u32 v):=Ja da t0;have x1:V5.cell? ⟨V.heap.size,1,none⟩=some (.int .u32 0):=Ja da t1;have x2:V5.cell? ⟨V.heap.size,2,none⟩=some (.int .i64 0):=Ja da t2;have x3:V5.cell? ⟨V.heap.size,3,none⟩=some (.int .i64 nv):=Ja da t3;have x4:V5.cell? ⟨V.heap.size,4,none⟩=some (.int .i64 nc):=Ja da t4;have x5:V5.cell? ⟨V.heap.size,5,none⟩=some (.int .i64 nc):=Ja da t5;have x6:V5.cell? ⟨V.heap.size,6,none⟩=some (.int .i64 ni):=Ja da t6;have x7:V5.cell? ⟨V.heap.size,7,none⟩=some (.int .i64 no):=Ja da t7;have x8:V5.cell? ⟨V.heap.size,8,none⟩=some (.slice A5 nc c5):=Ja da t8;have x9:V5.cell? ⟨V.heap.size,9,none⟩=some (.slice A cl.length cap):=Ja da t9;have x10:V5.cell? ⟨V.heap.size,10,none⟩=some (.slice none 0 0):=Ja da t10;have x11:V5.cell? ⟨V.heap.size,11,none⟩=some (.int .i64 J.1.2):=Ja da t11;have x12:V5.cell? ⟨V.heap.size,12,none⟩=some (.int .i64 0):=Ja da t12;clear bP gy da ef qP iL lU
    go_wp2_with fail
    refine bodyPost_ret (v:= .tuple #[.agg #[.int .u32 v,.int .u32 0,.int .i64 0,.int .i64 nv,.int .i64 nc,.int .i64 nc,.int .i64 ni,.int .i64 no,.slice A5 nc c5,.slice A cl.length cap,.slice none 0 0,.int .i64 J.1.2,.int .i64 0],.agg #[.int .i64 0,.int .i64 0,.int .i64 0]]) (by simp [results,Tryz.results34,go_sem, *]) rfl ⟨⟨⟨A5,c5,A,cap,none,0⟩,by rw [fY.out],?_⟩,?_⟩
    ·have cP:J3 V5 cl A cap:=yo.out;have hfi:=sC.out;refine⟨?_,?_,Jar _⟩
     ·show Qc _ (nuI ((Jq p).map (·.first))) ((Jq p).map (·.first)).length A5 c5;rw [List.length_map,HNU.out,HNC.out];refine Qc.own2 (base:=V2.heap.size) (e:=21) ?_
      repeat (first|(with_reducible exact hfi)|refine Kn ?_ (fun b hb he=>by have:=(hfi.lt b hb).1;omega) _ _)
     ·show J3 _ (Xs p) A cap;rw [mK.out]
      repeat (first|(with_reducible exact cP)|refine J3.off ?_ (fun b off h=>by have:=yn.out b off h;omega) _ _)
    ·repeat (first|(with_reducible exact wK.out.bel)|refine Below.setCell ?_ (show w.heap.size<=w.heap.size+1 by omega) _)
   ·rw [if_pos he];have te:(Ee != 0)=true:=by simpa using he
    clear he
    go_enter Tryz.func34,Tryz.ntmps34
    go_upto_region 2 with (go_at_call 72;go_loud (refine(aZ _ Jb).mono ?_;rintro r wa ⟨⟨A,cap,rfl,aY,lS⟩,aA⟩))
    refine Jo fun V hV=>?_;have bK:Below wa.heap.size wa V:=by rw [hV];exact Jc (Jc (Below.refl _ _) _) _
    have hi:Ja9 w V:=by rw [hV];exact(((Ja9.new w _ _ _ _).later aA).later (Jc (Jc (Below.refl _ _) _) _))
    have s0:V.cell? ⟨wa.heap.size+1,0,none⟩=some (.int .i64 0):=by rw [hV];go_simp
    have s1:V.cell? ⟨wa.heap.size+1,1,none⟩=some (.int .i64 0):=by rw [hV];go_simp
    have s2:V.cell? ⟨wa.heap.size+1,2,none⟩=some (.int .i64 0):=by rw [hV];go_simp
    have k0:V.cell? ⟨wa.heap.size,0,none⟩=some (.int .i64 nv):=by rw [hV];go_simp
    have k1:V.cell? ⟨wa.heap.size,1,none⟩=some (.int .i64 nc):=by rw [hV];go_simp
    have k2:V.cell? ⟨wa.heap.size,2,none⟩=some (.int .i64 nc):=by rw [hV];go_simp
    have k3:V.cell? ⟨wa.heap.size,3,none⟩=some (.int .i64 ni):=by rw [hV];go_simp
    have k4:V.cell? ⟨wa.heap.size,4,none⟩=some (.int .i64 no):=by rw [hV];go_simp
    have p0:V.cell? ⟨w.heap.size,0,none⟩=some (.string p.name):=Ja bK (Ja aA (by go_simp));have p1:V.cell? ⟨w.heap.size,1,none⟩=some (.slice A1 ni c1):=Ja bK (Ja aA (by go_simp));have p2:V.cell? ⟨w.heap.size,2,none⟩=some (.slice A2 no c2):=Ja bK (Ja aA (by go_simp));have p3:V.cell? ⟨w.heap.size,3,none⟩=some (.slice A3 p.locals.length c3):=Ja bK (Ja aA (by go_simp));have p4:V.cell? ⟨w.heap.size,4,none⟩=some (.slice A4 p.eqs.length c4):=Ja bK (Ja aA (by go_simp));have cN:w.heap.size+3<=wa.heap.size:=by have:=aA.size;simpa using this
    have mQ:wa.heap.size+2<=V.heap.size:=by rw [hV];simp
    have HI:=Lib.hid hi;have kO:∀b off,A=some ⟨b,off,none⟩->w.heap.size+3<=b:=fun b off h=>by have:=lS b off h;simpa using this
    have yn:=Lib.hid kO;clear lS kO;have ua:=Lib.hid (aY.later bK);have lu:w.heap.size<V.heap.size:=by omega
    clear hV hi aZ aY bK aA
    go_upto_region 7 with fail
    refine Jo fun V2 bz=>?_;have aq:Below V.heap.size V V2:=by rw [bz];exact Jc (Below.refl _ _) _
    have m0:V2.cell? ⟨V.heap.size,0,none⟩=some (.int .u32 v):=by rw [bz];go_simp
    have m1:V2.cell? ⟨V.heap.size,1,none⟩=some (.int .u32 0):=by rw [bz];go_simp
    have m2:V2.cell? ⟨V.heap.size,2,none⟩=some (.int .i64 0):=by rw [bz];go_simp
    have m3:V2.cell? ⟨V.heap.size,3,none⟩=some (.int .i64 nv):=by rw [bz];go_simp
    have m4:V2.cell? ⟨V.heap.size,4,none⟩=some (.int .i64 nc):=by rw [bz];go_simp
    have m5:V2.cell? ⟨V.heap.size,5,none⟩=some (.int .i64 nc):=by rw [bz];go_simp
    have m6:V2.cell? ⟨V.heap.size,6,none⟩=some (.int .i64 ni):=by rw [bz];go_simp
    have m7:V2.cell? ⟨V.heap.size,7,none⟩=some (.int .i64 no):=by rw [bz];go_simp
    have m8:V2.cell? ⟨V.heap.size,8,none⟩=some (.slice none 0 0):=by rw [bz];go_simp
    have m9:V2.cell? ⟨V.heap.size,9,none⟩=some (.slice A cl.length cap):=by rw [bz];go_simp
    have m10:V2.cell? ⟨V.heap.size,10,none⟩=some (.slice none 0 0):=by rw [bz];go_simp
    have m11:V2.cell? ⟨V.heap.size,11,none⟩=some (.int .i64 0):=by rw [bz];go_simp
    have m12:V2.cell? ⟨V.heap.size,12,none⟩=some (.int .i64 0):=by rw [bz];go_simp
    have g8:V2.frozen? ⟨V.heap.size,8,none⟩=false:=by rw [bz];go_simp
    have g11:V2.frozen? ⟨V.heap.size,11,none⟩=false:=by rw [bz];go_simp
    have br:V.heap.size<V2.heap.size:=by rw [bz];simp
    replace p0:=Ja aq p0;replace p1:=Ja aq p1;replace p2:=Ja aq p2;replace p3:=Ja aq p3;replace p4:=Ja aq p4;replace k0:=Ja aq k0;replace k1:=Ja aq k1;replace k2:=Ja aq k2;replace k3:=Ja aq k3;replace k4:=Ja aq k4;have mU:=Lib.hid (HI.out.later aq);have pn:=Lib.hid (ua.out.later aq);have po:=Lib.hid ua.out;clear bz aq s0 s1 s2 HI ua
    go_upto_region 8 with (go_at_call 73;go_loud (refine(gR _ mU.out.bel).mono ?_;rintro r wf ⟨⟨vf,rfl,gw⟩,bZ⟩;obtain⟨A5,c5,rfl,ub⟩:=Qc.of_own gw;have n8:=Ja bZ m8;have o8:wf.frozen? ⟨V.heap.size,8,none⟩=false:=(Jf bZ _ _ br).trans g8))
    refine Jo fun V3 dl=>?_;have eq:=bZ.size;have aE:V3.ownsRow V2.heap.size 21 1 (.slice A5 nc c5) nc nu:=by rw [dl];exact Kn gw (fun b hb he=>by have:=(gw.lt b hb).1;omega) _ _
    have lT:Hid (J3 V3 cl A cap):=by rw [dl];exact Lib.hid (J3.set po.out (pn.out.later bZ) (Nat.le_refl _) _ _)
    have lQ:Hid (Ja9 w V3):=by rw [dl];exact Lib.hid ((mU.out.later bZ).set (by omega) _ _)
    have r0:V3.cell? ⟨V.heap.size,0,none⟩=some (.int .u32 v):=by rw [dl,J5 _ _ _ _ _ (by decide)];exact Ja bZ m0
    have r1:V3.cell? ⟨V.heap.size,1,none⟩=some (.int .u32 0):=by rw [dl,J5 _ _ _ _ _ (by decide)];exact Ja bZ m1
    have r2:V3.cell? ⟨V.heap.size,2,none⟩=some (.int .i64 0):=by rw [dl,J5 _ _ _ _ _ (by decide)];exact Ja bZ m2
    have r3:V3.cell? ⟨V.heap.size,3,none⟩=some (.int .i64 nv):=by rw [dl,J5 _ _ _ _ _ (by decide)];exact Ja bZ m3
    have r4:V3.cell? ⟨V.heap.size,4,none⟩=some (.int .i64 nc):=by rw [dl,J5 _ _ _ _ _ (by decide)];exact Ja bZ m4
    have r5:V3.cell? ⟨V.heap.size,5,none⟩=some (.int .i64 nc):=by rw [dl,J5 _ _ _ _ _ (by decide)];exact Ja bZ m5
    have r6:V3.cell? ⟨V.heap.size,6,none⟩=some (.int .i64 ni):=by rw [dl,J5 _ _ _ _ _ (by decide)];exact Ja bZ m6
    have r7:V3.cell? ⟨V.heap.size,7,none⟩=some (.int .i64 no):=by rw [dl,J5 _ _ _ _ _ (by decide)];exact Ja bZ m7
    have r8:V3.cell? ⟨V.heap.size,8,none⟩=some (.slice A5 nc c5):=by rw [dl];exact World.cell?_setCell_same _ _ _ (Ja bZ m8)
    have r9:V3.cell? ⟨V.heap.size,9,none⟩=some (.slice A cl.length cap):=by rw [dl,J5 _ _ _ _ _ (by decide)];exact Ja bZ m9
    have r10:V3.cell? ⟨V.heap.size,10,none⟩=some (.slice none 0 0):=by rw [dl,J5 _ _ _ _ _ (by decide)];exact Ja bZ m10
    have r11:V3.cell? ⟨V.heap.size,11,none⟩=some (.int .i64 0):=by rw [dl,J5 _ _ _ _ _ (by decide)];exact Ja bZ m11
    have r12:V3.cell? ⟨V.heap.size,12,none⟩=some (.int .i64 0):=by rw [dl,J5 _ _ _ _ _ (by decide)];exact Ja bZ m12
    have g11':V3.frozen? ⟨V.heap.size,11,none⟩=false:=by rw [dl,World.frozen?_setCell];exact(Jf bZ _ _ br).trans g11
    replace k0:V3.cell? ⟨wa.heap.size,0,none⟩=some (.int .i64 nv):=by rw [dl,Qm _ _ _ _ _ _ (by omega)];exact Ja bZ k0
    replace k1:V3.cell? ⟨wa.heap.size,1,none⟩=some (.int .i64 nc):=by rw [dl,Qm _ _ _ _ _ _ (by omega)];exact Ja bZ k1
    replace k2:V3.cell? ⟨wa.heap.size,2,none⟩=some (.int .i64 nc):=by rw [dl,Qm _ _ _ _ _ _ (by omega)];exact Ja bZ k2
    replace k3:V3.cell? ⟨wa.heap.size,3,none⟩=some (.int .i64 ni):=by rw [dl,Qm _ _ _ _ _ _ (by omega)];exact Ja bZ k3
    replace k4:V3.cell? ⟨wa.heap.size,4,none⟩=some (.int .i64 no):=by rw [dl,Qm _ _ _ _ _ _ (by omega)];exact Ja bZ k4
    have fe:V2.heap.size<=V3.heap.size:=by rw [dl];simpa using eq
    have kI:V.heap.size<V3.heap.size:=by omega
    have iK:=Lib.hid aE;clear dl ub gw gR m0 m1 m2 m3 m4 m5 m6 m7 m8 m9 m10 m11 m12 g8 g11 n8 o8 p0 p1 p2 p3 p4 aE bZ pn mU
    go_upto_region 10 with (go_at_call 29;go_loud (refine(pl A cap _ lT.out).mono ?_;rintro r wj ⟨rfl,dQ⟩;have q11:=Ja dQ r11;have o11:wj.frozen? ⟨V.heap.size,11,none⟩=false:=(Jf dQ _ _ kI).trans g11';have hzj:V.heap.size<wj.heap.size:=(by have:=dQ.size;omega)))
    refine Jo fun V4 eE=>?_;have hzj2:=dQ.size;have cj:V4.ownsRow V2.heap.size 21 1 (.slice A5 nc c5) nc nu:=by rw [eE];exact Js (Kn (Jy iK.out dQ) (fun b hb he=>by have:=(iK.out.lt b hb).1;omega) _ _)
    have lU:Hid (J3 V4 cl A cap):=by rw [eE];exact Lib.hid ((J3.set po.out (lT.out.later dQ) (Nat.le_refl _) _ _).later (Jc (Below.refl _ _) _))
    have qP:Hid (Ja9 w V4):=by rw [eE];exact Lib.hid (((lQ.out.later dQ).set (by omega) _ _).later (Jc (Below.refl _ _) _))
    have t0:V4.cell? ⟨V.heap.size,0,none⟩=some (.int .u32 v):=by rw [eE];exact J4 ((J5 _ _ _ _ _ (by decide)).trans (Ja dQ r0))
    have t1:V4.cell? ⟨V.heap.size,1,none⟩=some (.int .u32 0):=by rw [eE];exact J4 ((J5 _ _ _ _ _ (by decide)).trans (Ja dQ r1))
    have t2:V4.cell? ⟨V.heap.size,2,none⟩=some (.int .i64 0):=by rw [eE];exact J4 ((J5 _ _ _ _ _ (by decide)).trans (Ja dQ r2))
    have t3:V4.cell? ⟨V.heap.size,3,none⟩=some (.int .i64 nv):=by rw [eE];exact J4 ((J5 _ _ _ _ _ (by decide)).trans (Ja dQ r3))
    have t4:V4.cell? ⟨V.heap.size,4,none⟩=some (.int .i64 nc):=by rw [eE];exact J4 ((J5 _ _ _ _ _ (by decide)).trans (Ja dQ r4))
    have t5:V4.cell? ⟨V.heap.size,5,none⟩=some (.int .i64 nc):=by rw [eE];exact J4 ((J5 _ _ _ _ _ (by decide)).trans (Ja dQ r5))
    have t6:V4.cell? ⟨V.heap.size,6,none⟩=some (.int .i64 ni):=by rw [eE];exact J4 ((J5 _ _ _ _ _ (by decide)).trans (Ja dQ r6))
    have t7:V4.cell? ⟨V.heap.size,7,none⟩=some (.int .i64 no):=by rw [eE];exact J4 ((J5 _ _ _ _ _ (by decide)).trans (Ja dQ r7))
    have t8:V4.cell? ⟨V.heap.size,8,none⟩=some (.slice A5 nc c5):=by rw [eE];exact J4 ((J5 _ _ _ _ _ (by decide)).trans (Ja dQ r8))
    have t9:V4.cell? ⟨V.heap.size,9,none⟩=some (.slice A cl.length cap):=by rw [eE];exact J4 ((J5 _ _ _ _ _ (by decide)).trans (Ja dQ r9))
    have t10:V4.cell? ⟨V.heap.size,10,none⟩=some (.slice none 0 0):=by rw [eE];exact J4 ((J5 _ _ _ _ _ (by decide)).trans (Ja dQ r10))
    have t11:V4.cell? ⟨V.heap.size,11,none⟩=some (.int .i64 J.1.2):=by rw [eE];exact J4 (World.cell?_setCell_same _ _ _ (Ja dQ r11))
    have t12:V4.cell? ⟨V.heap.size,12,none⟩=some (.int .i64 0):=by rw [eE];exact J4 ((J5 _ _ _ _ _ (by decide)).trans (Ja dQ r12))
    have qS:V.heap.size<V4.heap.size:=by rw [eE];simp;omega
    have iL:=Lib.hid cj;clear eE r0 r1 r2 r3 r4 r5 r6 r7 r8 r9 r10 r11 r12 g11' cj iK lT lQ pl q11 o11 k0 k1 k2 k3 k4 dQ
    go_upto_region 11 with (go_at_call 12;go_loud (refine(tZ A cap A5 c5 _ (Qc.own2 iL.out) lU.out).mono ?_;rintro r we ⟨⟨Ae,ce,rfl⟩,ef⟩))
    refine Jo fun V5 gy=>?_;have da:Below V4.heap.size V4 V5:=by rw [gy];exact ef
    have bP:=qP.out.later da;have z0:V5.cell? ⟨w.heap.size+1,0,none⟩=some (.int .u32 0):=bP.z 0 _ rfl;have z1:V5.cell? ⟨w.heap.size+1,1,none⟩=some (.int .u32 0):=bP.z 1 _ rfl;have z2:V5.cell? ⟨w.heap.size+1,2,none⟩=some (.int .i64 0):=bP.z 2 _ rfl;have z3:V5.cell? ⟨w.heap.size+1,3,none⟩=some (.int .i64 0):=bP.z 3 _ rfl;have z4:V5.cell? ⟨w.heap.size+1,4,none⟩=some (.int .i64 0):=bP.z 4 _ rfl;have z5:V5.cell? ⟨w.heap.size+1,5,none⟩=some (.int .i64 0):=bP.z 5 _ rfl;have z6:V5.cell? ⟨w.heap.size+1,6,none⟩=some (.int .i64 0):=bP.z 6 _ rfl;have z7:V5.cell? ⟨w.heap.size+1,7,none⟩=some (.int .i64 0):=bP.z 7 _ rfl;have z8:V5.cell? ⟨w.heap.size+1,8,none⟩=some (.slice none 0 0):=bP.z 8 _ rfl;have z9:V5.cell? ⟨w.heap.size+1,9,none⟩=some (.slice none 0 0):=bP.z 9 _ rfl;have z10:V5.cell? ⟨w.heap.size+1,10,none⟩=some (.slice none 0 0):=bP.z 10 _ rfl;have z11:V5.cell? ⟨w.heap.size+1,11,none⟩=some (.int .i64 0):=bP.z 11 _ rfl;have z12:V5.cell? ⟨w.heap.size+1,12,none⟩=some (.int .i64 0):=bP.z 12 _ rfl;have y0:V5.frozen? ⟨w.heap.size+1,0,none⟩=false:=bP.fz 0;have y1:V5.frozen? ⟨w.heap.size+1,1,none⟩=false:=bP.fz 1;have y2:V5.frozen? ⟨w.heap.size+1,2,none⟩=false:=bP.fz 2;have y3:V5.frozen? ⟨w.heap.size+1,3,none⟩=false:=bP.fz 3;have y4:V5.frozen? ⟨w.heap.size+1,4,none⟩=false:=bP.fz 4;have y5:V5.frozen? ⟨w.heap.size+1,5,none⟩=false:=bP.fz 5;have y6:V5.frozen? ⟨w.heap.size+1,6,none⟩=false:=bP.fz 6;have y7:V5.frozen? ⟨w.heap.size+1,7,none⟩=false:=bP.fz 7;have y8:V5.frozen? ⟨w.heap.size+1,8,none⟩=false:=bP.fz 8;have y9:V5.frozen? ⟨w.heap.size+1,9,none⟩=false:=bP.fz 9;have y10:V5.frozen? ⟨w.heap.size+1,10,none⟩=false:=bP.fz 10;have y11:V5.frozen? ⟨w.heap.size+1,11,none⟩=false:=bP.fz 11;have y12:V5.frozen? ⟨w.heap.size+1,12,none⟩=false:=bP.fz 12;have f0:V5.cell? ⟨w.heap.size+1+1,0,none⟩=some (.int .i64 0):=bP.f.1;have f1:V5.cell? ⟨w.heap.size+1+1,1,none⟩=some (.int .i64 0):=bP.f.2.1;have f2:V5.cell? ⟨w.heap.size+1+1,2,none⟩=some (.int .i64 0):=bP.f.2.2;have ff0:V5.frozen? ⟨w.heap.size+1+1,0,none⟩=false:=bP.ff 0;have ff1:V5.frozen? ⟨w.heap.size+1+1,1,none⟩=false:=bP.ff 1;have ff2:V5.frozen? ⟨w.heap.size+1+1,2,none⟩=false:=bP.ff 2;have wK:=Lib.hid bP;have sC:=Lib.hid (Jy iL.out da);have yo:=Lib.hid (lU.out.later da);clear bP gy da ef qP iL lU
    go_wp2_with fail
    refine bodyPost_ret (v:= .tuple #[.agg #[.int .u32 0,.int .u32 0,.int .i64 0,.int .i64 0,.int .i64 0,.int .i64 0,.int .i64 0,.int .i64 0,.slice none 0 0,.slice none 0 0,.slice none 0 0,.int .i64 0,.int .i64 0],.agg #[.int .i64 4,.int .i64 0,.int .i64 Ee]]) (by simp [results,Tryz.results34,go_sem, *]) rfl ⟨⟨⟨none,0,none,0,none,0⟩,rfl,Jiw _⟩,?_⟩;exact Below.setCell (Below.setCell wK.out.bel (show w.heap.size<=w.heap.size+1+1 by omega) _) (show w.heap.size<=w.heap.size+1+1 by omega) _
 ·have hv:imE p v=(Im.zero,(Xg p).2.2):=by unfold imE;rw [if_pos hf]
  rw [hv]
  have aS:((Xg p).2.2.1 == 0 && (Xg p).2.2.2.1 == 0 && (Xg p).2.2.2.2 == 0)=false:=by
   rw [Bool.eq_false_iff];intro h;simp only [Bool.and_eq_true,beq_iff_eq] at h;exact hf (Prod.ext h.1.1 (Prod.ext h.1.2 h.2))
  have dp:∀w,(Op.equalIn 10000 32 (.agg #[.int .i64 (Xg p).2.2.1,.int .i64 (Xg p).2.2.2.1,.int .i64 (Xg p).2.2.2.2]) (.agg #[.int .i64 0,.int .i64 0,.int .i64 0])).run Tryz.prog w = .ok false w:=fun w=>by rw [Zr,aS]
  obtain⟨A1,c1,A2,c2,A3,c3,A4,c4⟩:=a;unfold prV fV frT at *;dsimp only at *;generalize (Xg p).2.2.1=k1 at *;generalize (Xg p).2.2.2.1=k2 at *;generalize (Xg p).2.2.2.2=k3 at *;generalize (Xg p).2.1=fr at *;generalize (Xg p).1=cl at *;clear hg hp aw hf aS hv
  go_enter Tryz.func34,Tryz.ntmps34
  go_upto_region 2 with (go_at_call 72;go_loud (refine(aZ _ Jb).mono ?_;rintro r wa ⟨⟨A,cap,rfl,aY,lS⟩,aA⟩))
  refine Jo fun V hV=>?_;have hi:Ja9 w V:=by rw [hV];exact(((Ja9.new w _ _ _ _).later aA).later (Jc (Jc (Below.refl _ _) _) _))
  have s0:V.cell? ⟨wa.heap.size+1,0,none⟩=some (.int .i64 k1):=by rw [hV];go_simp
  have s1:V.cell? ⟨wa.heap.size+1,1,none⟩=some (.int .i64 k2):=by rw [hV];go_simp
  have s2:V.cell? ⟨wa.heap.size+1,2,none⟩=some (.int .i64 k3):=by rw [hV];go_simp
  have cN:w.heap.size+3<=wa.heap.size:=by have:=aA.size;simpa using this
  have z0:V.cell? ⟨w.heap.size+1,0,none⟩=some (.int .u32 0):=hi.z 0 _ rfl;have z1:V.cell? ⟨w.heap.size+1,1,none⟩=some (.int .u32 0):=hi.z 1 _ rfl;have z2:V.cell? ⟨w.heap.size+1,2,none⟩=some (.int .i64 0):=hi.z 2 _ rfl;have z3:V.cell? ⟨w.heap.size+1,3,none⟩=some (.int .i64 0):=hi.z 3 _ rfl;have z4:V.cell? ⟨w.heap.size+1,4,none⟩=some (.int .i64 0):=hi.z 4 _ rfl;have z5:V.cell? ⟨w.heap.size+1,5,none⟩=some (.int .i64 0):=hi.z 5 _ rfl;have z6:V.cell? ⟨w.heap.size+1,6,none⟩=some (.int .i64 0):=hi.z 6 _ rfl;have z7:V.cell? ⟨w.heap.size+1,7,none⟩=some (.int .i64 0):=hi.z 7 _ rfl;have z8:V.cell? ⟨w.heap.size+1,8,none⟩=some (.slice none 0 0):=hi.z 8 _ rfl;have z9:V.cell? ⟨w.heap.size+1,9,none⟩=some (.slice none 0 0):=hi.z 9 _ rfl;have z10:V.cell? ⟨w.heap.size+1,10,none⟩=some (.slice none 0 0):=hi.z 10 _ rfl;have z11:V.cell? ⟨w.heap.size+1,11,none⟩=some (.int .i64 0):=hi.z 11 _ rfl;have z12:V.cell? ⟨w.heap.size+1,12,none⟩=some (.int .i64 0):=hi.z 12 _ rfl;have y0:V.frozen? ⟨w.heap.size+1,0,none⟩=false:=hi.fz 0;have y1:V.frozen? ⟨w.heap.size+1,1,none⟩=false:=hi.fz 1;have y2:V.frozen? ⟨w.heap.size+1,2,none⟩=false:=hi.fz 2;have y3:V.frozen? ⟨w.heap.size+1,3,none⟩=false:=hi.fz 3;have y4:V.frozen? ⟨w.heap.size+1,4,none⟩=false:=hi.fz 4;have y5:V.frozen? ⟨w.heap.size+1,5,none⟩=false:=hi.fz 5;have y6:V.frozen? ⟨w.heap.size+1,6,none⟩=false:=hi.fz 6;have y7:V.frozen? ⟨w.heap.size+1,7,none⟩=false:=hi.fz 7;have y8:V.frozen? ⟨w.heap.size+1,8,none⟩=false:=hi.fz 8;have y9:V.frozen? ⟨w.heap.size+1,9,none⟩=false:=hi.fz 9;have y10:V.frozen? ⟨w.heap.size+1,10,none⟩=false:=hi.fz 10;have y11:V.frozen? ⟨w.heap.size+1,11,none⟩=false:=hi.fz 11;have y12:V.frozen? ⟨w.heap.size+1,12,none⟩=false:=hi.fz 12;have f0:V.cell? ⟨w.heap.size+1+1,0,none⟩=some (.int .i64 0):=hi.f.1;have f1:V.cell? ⟨w.heap.size+1+1,1,none⟩=some (.int .i64 0):=hi.f.2.1;have f2:V.cell? ⟨w.heap.size+1+1,2,none⟩=some (.int .i64 0):=hi.f.2.2;have ff0:V.frozen? ⟨w.heap.size+1+1,0,none⟩=false:=hi.ff 0;have ff1:V.frozen? ⟨w.heap.size+1+1,1,none⟩=false:=hi.ff 1;have ff2:V.frozen? ⟨w.heap.size+1+1,2,none⟩=false:=hi.ff 2;have HI:=Lib.hid hi;clear hV hi aZ
  go_upto_region 3 with fail
  have ar:(fun w':World=>w'.cell? ⟨wa.heap.size+1,0,none⟩=some (.int .i64 k1)/\w'.cell? ⟨wa.heap.size+1,1,none⟩=some (.int .i64 k2)/\w'.cell? ⟨wa.heap.size+1,2,none⟩=some (.int .i64 k3)) V.drew:=⟨s0,s1,s2⟩;dsimp only at ar;refine Kd (fun w'=>w'.cell? ⟨wa.heap.size+1,0,none⟩=some (.int .i64 k1)/\w'.cell? ⟨wa.heap.size+1,1,none⟩=some (.int .i64 k2)/\w'.cell? ⟨wa.heap.size+1,2,none⟩=some (.int .i64 k3)) 3 1 (by kernel_rfl) (by rfl) ?_;simp only [List.size_toArray,List.length_cons,List.length_nil,Nat.zero_add,Nat.reduceAdd];refine Ji 0 ar ?_;refine Ji 1 ar ?_;refine Kb 2 ?_;refine Jj fun K hK=>?_;go_simp;refine hK _ _ ⟨ar,Kh (by kernel_rfl) ?_⟩;clear hK K
  try simp only [Act.put,sa1,sa2,sa3]
  refine Qx 3 ?_;refine Jj fun K hK=>?_;go_simp;refine hK _ _ ?_;clear hK K
  try simp only [Act.put,sa1,sa2,sa3]
  refine Ki (by kernel_rfl) ?_;clear ar
  go_wp2_with fail
  refine bodyPost_ret (v:= .tuple #[.agg #[.int .u32 0,.int .u32 0,.int .i64 0,.int .i64 0,.int .i64 0,.int .i64 0,.int .i64 0,.int .i64 0,.slice none 0 0,.slice none 0 0,.slice none 0 0,.int .i64 0,.int .i64 0],.agg #[.int .i64 k1,.int .i64 k2,.int .i64 k3]]) (by simp [results,Tryz.results34,go_sem, *]) rfl ⟨⟨⟨none,0,none,0,none,0⟩,rfl,Jiw _⟩,?_⟩;exact Qq _ _ _ (Jd HI.out.bel (Jh (Below.refl _ _))) (by omega)
end Go.Proofs.YtdgjplldlfeolaaGreatDoor
namespace Go.Proofs.YtdgjplldlfeolaaGreatDoor
open Go.RowKit Go.Sort
theorem Jxg (a b:Int) (w:World):(Op.equalIn 10000 122 (.agg #[.int .i64 a,.int .i32 b]) (.agg #[.int .i64 a,.int .i32 b])).run Tryz.prog w = .ok true w:=by
 have hS:Tryz.prog.underlying 122=some (.struct (Tryz.prog.fieldsOf 122)):=by kernel_rfl
 have hp:Tryz.prog.stoodInHeld 122=false:=by kernel_rfl
 rw [show(10000:Nat)=9999+1 from rfl,run_equalIn_agg w 9999 122 _ _ hS hp];simp only [Program.fieldsOf,Tryz.underlying122];go_simp
theorem Jra (a b c d e:Int) (w:World):(Op.equalIn 10000 25 (.agg #[.int .i64 a,.int .i64 b,.int .i64 c,.int .i64 d,.int .i64 e]) (.agg #[.int .i64 a,.int .i64 b,.int .i64 c,.int .i64 d,.int .i64 e])).run Tryz.prog w = .ok true w:=by
 have hS:Tryz.prog.underlying 25=some (.struct (Tryz.prog.fieldsOf 25)):=by kernel_rfl
 have hp:Tryz.prog.stoodInHeld 25=false:=by kernel_rfl
 rw [show(10000:Nat)=9999+1 from rfl,run_equalIn_agg w 9999 25 _ _ hS hp];simp only [Program.fieldsOf,Tryz.underlying25];go_simp
theorem Jqh (l:List (Int×Int)) (A:Option Addr) (cap:Nat) (B:Option Addr) (capB:Nat) (w:World) (h1:J3 w l A cap) (h2:J3 w l B capB) :
  Calls Tryz.prog 27 #[.slice A l.length cap,.slice B l.length capB] w fun r w'=>r = .returned (.bool true)/\Below w.heap.size w w':=by
 have l1:=h1.1;have l2:=h2.1;have m1:=h1.2.1;have m2:=h2.2.1;unfold maxLen at m1 m2;have fM:Tryz.prog.eqGuardType Tryz.prog.depth 122=false:=by kernel_rfl
 go_enter Tryz.func27,Tryz.ntmps27
 go_wp2_with fail
 go_loopw [5] (fun i wr=>∃(k:Nat),k<=l.length/\i = .int .i64 k/\Below w.heap.size w wr) (fun i _=>l.length-(intOf i).toNat)
 case atStart=>exact⟨0,Nat.zero_le _,rfl,Below.refl _ _⟩
 case round=>
  obtain⟨k,hk,rfl,ab⟩:=hrel
  by_cases am:k<l.length
  ·have hx:l[k]?=some l[k]:=List.getElem?_eq_getElem am;generalize l[k]=x at hx;have aY:=Joi l k x hx;obtain⟨b,off,rfl,cB⟩:=(h1.later ab).2.2.2 (by omega);obtain⟨b2,off2,rfl,oP⟩:=(h2.later ab).2.2.2 (by omega);have d0:=cB _ _ aY.1;have d1:wr.cell? ⟨b,off+k * 2+1,none⟩=some (.int .i32 x.2):=cB _ _ aY.2;have e0:=oP _ _ aY.1;have e1:wr.cell? ⟨b2,off2+k * 2+1,none⟩=some (.int .i32 x.2):=oP _ _ aY.2;obtain⟨x1,x2⟩:=x;dsimp only at d0 d1 e0 e1;have dp:=fun w=>Jxg x1 x2 w;have aH:=block_lt_of_cell d0;have bG:=block_lt_of_cell e0;clear hx aY cB oP
   go_wp2_with fail
   go_quiet (fail)
   go_wp2_with fail
   go_roundw
   case rel=>exact⟨k+1,by omega,by go_num,J8 ab _⟩
   case measure=>simp [intOf];omega
  ·obtain rfl:k=l.length:=by omega
   go_wp2_with fail
   go_ret;exact⟨rfl,ab⟩
theorem Kbs (m:Im) (a b:ImA) (w:World) (ha:Jd5 w m a) (hb:Jd5 w m b) :
  Calls Tryz.prog 9 #[imV m a,imV m b] w fun r w'=>r = .returned (.bool true)/\Below w.heap.size w w':=by
 have h1:=fun W (h:Below w.heap.size w W)=>Kct m.first a.A1 a.c1 b.A1 b.c1 W (ha.first.later h) (hb.first.later h);have h2:=fun W (h:Below w.heap.size w W)=>Jqh m.step a.A2 a.c2 b.A2 b.c2 W (ha.step.later h) (hb.step.later h);have h3:=fun W (h:Below w.heap.size w W)=>Jqh m.move a.A3 a.c3 b.A3 b.c3 W (ha.move.later h) (hb.move.later h);have H1:=Lib.hid h1;have H2:=Lib.hid h2;have H3:=Lib.hid h3;have uf:=fun w=>Jra m.fr.s m.fr.o m.fr.n m.fr.i m.fr.u w;have fM:Tryz.prog.eqGuardType Tryz.prog.depth 25=false:=by kernel_rfl
 clear ha hb h1 h2 h3;obtain⟨A1,c1,A2,c2,A3,c3⟩:=a;obtain⟨B1,d1,B2,d2,B3,d3⟩:=b;unfold imV;dsimp only at *
 go_enter Tryz.func9,Tryz.ntmps9
 go_upto_region 1 with fail
 refine Jo fun W0 ag=>?_;have HX:Hid (ImB W0 w.heap.size (imC m ⟨A1,c1,A2,c2,A3,c3⟩)):=by rw [ag];exact Lib.hid ((ImB.new _ _ _).later (Jc (Below.refl _ _) _))
 have HY:Hid (ImB W0 (w.heap.size+1) (imC m ⟨B1,d1,B2,d2,B3,d3⟩)):=by
  rw [ag];have:=ImB.new (w.alloc (.cells (imC m ⟨A1,c1,A2,c2,A3,c3⟩).toArray 29)) (imC m ⟨B1,d1,B2,d2,B3,d3⟩) 29;rw [show(w.alloc (.cells (imC m ⟨A1,c1,A2,c2,A3,c3⟩).toArray 29)).heap.size=w.heap.size+1 by simp] at this;exact Lib.hid this
 have aC:Below w.heap.size w W0:=by rw [ag];exact Jb
 have x0:=HX.out 0 _ rfl;have x1:=HX.out 1 _ rfl;have x2:=HX.out 2 _ rfl;have x3:=HX.out 3 _ rfl;have x4:=HX.out 4 _ rfl;have x5:=HX.out 5 _ rfl;have x6:=HX.out 6 _ rfl;have x7:=HX.out 7 _ rfl;have x8:=HX.out 8 _ rfl;have y0:=HY.out 0 _ rfl;have y1:=HY.out 1 _ rfl;have y2:=HY.out 2 _ rfl;have y3:=HY.out 3 _ rfl;have y4:=HY.out 4 _ rfl;have y5:=HY.out 5 _ rfl;have y6:=HY.out 6 _ rfl;have y7:=HY.out 7 _ rfl;have y8:=HY.out 8 _ rfl;clear ag
 go_wp2_with (first
  | (have hg:=aq;go_at_call 27;go_loud (refine(H3.out _ (Jd (Jd aC ac) aq)).mono ?_;rintro r w3 ⟨rfl,aM⟩;have x11:=Ja (Jd (Jd ac aq) aM) (HX.out 11 _ rfl);have y11:=Ja (Jd (Jd ac aq) aM) (HY.out 11 _ rfl);have x12:=Ja (Jd (Jd ac aq) aM) (HX.out 12 _ rfl);have y12:=Ja (Jd (Jd ac aq) aM) (HY.out 12 _ rfl)))
  | (have hg:=ac;go_at_call 27;go_loud (refine(H2.out _ (Jd aC ac)).mono ?_;rintro r w2 ⟨rfl,aq⟩;have x10:=Ja (Jd ac aq) (HX.out 10 _ rfl);have y10:=Ja (Jd ac aq) (HY.out 10 _ rfl)))
  | (go_at_call 26;go_loud (refine(H1.out _ aC).mono ?_;rintro r w1 ⟨rfl,ac⟩;have x9:=Ja ac (HX.out 9 _ rfl);have y9:=Ja ac (HY.out 9 _ rfl))))
 go_ret;exact⟨rfl,Jd (Jd (Jd aC ac) aq) aM⟩
end Go.Proofs.YtdgjplldlfeolaaGreatDoor
