/- Lemmas. -/
import Derived.Test.YtknfcamdfdfoeaaGreatDoorMac
import Derived.Test.YtknfcamdfdfoeaaGreatDoorZ29
import Derived.Test.YtknfcamdfdfoeaaGreatDoorZ28
set_option linter.unusedVariables false
set_option linter.unusedSimpArgs false
set_option maxRecDepth 100000
set_option maxHeartbeats 64000000
namespace Go.Proofs.YtknfcamdfdfoeaaGreatDoor
open Go.RowKit Go.Sort
theorem Jir (W:World) (z:Array Value) (n:Nat) (t:TypeId) (o:Nat) (ho:o<n):(W.alloc (.cells (madeCells z n) t)).cell? ⟨W.heap.size,o,none⟩=some (z[o % z.size]!):=by
 rw [Kw];unfold madeCells;rw [Array.getElem?_map,Array.getElem?_range,if_pos ho];exact Gd
theorem Jy2 (W:World) (n:Nat) (t:TypeId):Zv (W.alloc (.cells (madeCells #[.bool false,.int .i64 0,.int .i64 0] (n * 3)) t)) W.heap.size (List.replicate n Pl.no):=by
 refine⟨fun k p hk=>?_,fun o=>Uq⟩;rw [List.getElem?_replicate] at hk
 split at hk
 ·injection hk with hk;subst hk;refine⟨?_,?_,?_⟩
  ·rw [Jir _ _ _ _ _ Ua];simp only [List.size_toArray,Nl,Nm,show k * 3 % (0+1+1+1)=0 by omega];exact Gd
  ·rw [Jir _ _ _ _ _ Ua];simp only [List.size_toArray,Nl,Nm,show(k * 3+1) % (0+1+1+1)=1 by omega];exact Gd
  ·rw [Jir _ _ _ _ _ Ua];simp only [List.size_toArray,Nl,Nm,show(k * 3+2) % (0+1+1+1)=2 by omega];exact Gd
 ·cases hk
theorem Jr0 (n:Nat):(List.replicate (n+1) Pl.no).set 0 ⟨true,0,0⟩=Jdk n:=T9
theorem J3.get {w:World} {l:List (Int×Int)} {A:Option Addr} {cap:Nat} (h:J3 w l A cap) {k:Nat} {x:Int×Int} (hk:l[k]?=some x) :
  ∃b off,A=some ⟨b,off,none⟩/\b<w.heap.size/\w.cell? ⟨b,off+k * 2,none⟩=some (.int .i64 x.1)/\w.cell? ⟨b,off+k * 2+1,none⟩=some (.int .i32 x.2):=by
 have am:=(Nh hk).1;obtain⟨b,off,hA,hc⟩:=h.2.2.2 Ua;obtain⟨h1,h2⟩:=Joi l k x hk;have c1:=hc _ _ h1;have c2:=hc _ _ h2;rw [show off+(k * 2+1)=off+k * 2+1 by omega] at c2;exact⟨b,off,hA,Nu c1,c1,c2⟩
structure Jic (w:World) (B n:Nat) (f:Fr) (wr:World):Prop where
 b:Below w.heap.size w wr
 z:w.heap.size+2<=B/\B+2<=wr.heap.size
 k:wr.cell? ⟨w.heap.size,0,none⟩=some (.int .i64 f.s)/\wr.cell? ⟨w.heap.size,1,none⟩=some (.int .i64 f.o)/\wr.cell? ⟨w.heap.size,2,none⟩=some (.int .i64 f.n)/\wr.cell? ⟨w.heap.size,3,none⟩=some (.int .i64 f.i)/\wr.cell? ⟨w.heap.size,4,none⟩=some (.int .i64 f.u)
 r:wr.cell? ⟨w.heap.size+1,0,none⟩=some (.int .i64 0)/\wr.cell? ⟨w.heap.size+1,1,none⟩=some (.int .i64 0)/\wr.frozen? ⟨w.heap.size+1,0,none⟩=false/\wr.frozen? ⟨w.heap.size+1,1,none⟩=false
 x:wr.cell? ⟨B+1,0,none⟩=some (.slice (some ⟨B,0,none⟩) (n+1) (n+1))/\wr.cell? ⟨B+1,2,none⟩=some (.int .i64 0)
 fx:∀o,wr.frozen? ⟨B+1,o,none⟩=false
theorem Jic.later {w:World} {B n:Nat} {f:Fr} {W W':World} (h:Jic w B n f W) (hb:Below W.heap.size W W'):Jic w B n f W':=by
 have hz:=h.z
 exact⟨Jd h.b hb,⟨hz.1,Dx⟩,⟨Ja hb h.k.1,Ja hb h.k.2.1,Ja hb h.k.2.2.1,Ja hb h.k.2.2.2.1,Ja hb h.k.2.2.2.2⟩,
  ⟨Ja hb h.r.1,Ja hb h.r.2.1,(Jf hb _ _ Ua).trans h.r.2.2.1,(Jf hb _ _ Ua).trans h.r.2.2.2⟩,⟨Ja hb h.x.1,Ja hb h.x.2⟩,fun o=>(Jf hb _ _ Ua).trans (h.fx o)⟩
theorem Jic.kept {w:World} {B n:Nat} {f:Fr} {W W':World} (h:Jic w B n f W) (hk:J6 (fun b=>b=B\/b=B+1) W W') (x0:W'.cell? ⟨B+1,0,none⟩=W.cell? ⟨B+1,0,none⟩) (x2:W'.cell? ⟨B+1,2,none⟩=W.cell? ⟨B+1,2,none⟩) (fz:∀o,W'.frozen? ⟨B+1,o,none⟩=W.frozen? ⟨B+1,o,none⟩):Jic w B n f W':=by
 have hz:=h.z;have hw:=h.b.size;have c:=fun(b o:Nat) (v:Value) (hb:¬(b=B\/b=B+1)) hc=>hk.cell (b:=b) (o:=o) (v:=v) hb hc;have fr:=fun(b o:Nat) (hl:b<W.heap.size) (hb:¬(b=B\/b=B+1))=>World.frozen?_of_block (a:=⟨b,o,none⟩) (hk.block b hl hb)
 exact⟨hk.below h.b (fun j hj=>Ua),⟨hz.1,by have:=hk.size;omega⟩,⟨c _ _ _ Ua h.k.1,c _ _ _ Ua h.k.2.1,c _ _ _ Ua h.k.2.2.1,c _ _ _ Ua h.k.2.2.2.1,c _ _ _ Ua h.k.2.2.2.2⟩,
  ⟨c _ _ _ Ua h.r.1,c _ _ _ Ua h.r.2.1,(fr _ _ Ua Ua).trans h.r.2.2.1,(fr _ _ Ua Ua).trans h.r.2.2.2⟩,⟨x0.trans h.x.1,x2.trans h.x.2⟩,fun o=>(fz o).trans (h.fx o)⟩
def Jk7 (J:(Int×Int)×Int×Int):Value:= .tuple #[.agg #[.int .i64 J.1.1,.int .i64 J.1.2],.int .i64 J.2.1,.int .i64 J.2.2]
theorem Jmz (c:List (Int×Int)) (A:Option Addr) (cap:Nat) (f:Fr) (w:World) (hc:J3 w c A cap) (hN:∀i∈c,I32 i.2) :
  Calls Tryz.prog 35 #[.slice A c.length cap,frV f] w fun r w'=>r = .returned (Jk7 (Yi c f))/\Below w.heap.size w w':=by
 have fq:=fun W=>Jt4 f W;obtain⟨J,hJ⟩:∃J,J=Yi c f:=⟨_,rfl⟩;rw [<-hJ];unfold Yi at hJ;have bO:=hc.1;have fG:=hc.2.1;unfold maxLen at fG;unfold Jk7
 by_cases hg:f.good=false
 ·rw [if_pos hg] at hJ;rw [hg] at fq;simp only [Bool.false_eq_true,if_false] at fq;subst hJ;unfold frV at *;clear hg hN hc
  go_enter Tryz.func35,Tryz.ntmps35
  go_wp2_with (first|(go_at_call 59;refine(fq _).mono ?_;rintro r w1 ⟨rfl,ac⟩;have af:w.heap.size+2<=w1.heap.size:=V9;have g0:=Na w1 (w.heap.size+1) 0 0 (Ja ac Uq);have g1:=Na w1 (w.heap.size+1) 1 0 (Ja ac Uq);have f0:=Nc w1 (w.heap.size+1) 0 ((Jf ac _ _ Ul).trans Uq);have f1:=Nc w1 (w.heap.size+1) 1 ((Jf ac _ _ Ul).trans Uq);have aC:=Nd w w1 Jb))
  refine Nv (v:= .tuple #[.agg #[.int .i64 0,.int .i64 0],.int .i64 1,.int .i64 0]) L4 rfl ⟨rfl,?_⟩;exact Ub0
 rw [if_neg hg] at hJ;rw [show f.good=true by simpa using hg] at fq;simp only [if_true] at fq;clear hg
 by_cases dP:600<c.length
 ·rw [if_pos dP] at hJ;subst hJ;have tb:(600:Int)<(c.length:Int):=Ua;unfold frV at *;clear hN hc
  go_enter Tryz.func35,Tryz.ntmps35
  go_wp2_with (first|(go_at_call 59;refine(fq _).mono ?_;rintro r w1 ⟨rfl,ac⟩;have af:w.heap.size+2<=w1.heap.size:=V9;have g0:=Na w1 (w.heap.size+1) 0 0 (Ja ac Uq);have g1:=Na w1 (w.heap.size+1) 1 0 (Ja ac Uq);have f0:=Nc w1 (w.heap.size+1) 0 ((Jf ac _ _ Ul).trans Uq);have f1:=Nc w1 (w.heap.size+1) 1 ((Jf ac _ _ Ul).trans Uq);have aC:=Nd w w1 Jb))
  refine Nv (v:= .tuple #[.agg #[.int .i64 0,.int .i64 0],.int .i64 3,.int .i64 0]) L4 rfl ⟨rfl,?_⟩;exact Ub0
 rw [if_neg dP] at hJ;have tb:¬(600:Int)<(c.length:Int):=Ua;have HC:=Nf hc;have HN:=Nf hN;have HJ:=Nf hJ;clear hc hN hJ;have jH:=fun W:World=>run_make (P:=Tryz.prog) W 133 137 (Tryz.prog.info? 137).get! (.agg #[.bool false,.int .i64 0,.int .i64 0]) Tryz.underlying133 Ug Ug .i64 .i64 ((c.length:Int)+1) ((c.length:Int)+1) Ua Ua (by rw [show(Tryz.prog.info? 137).get!.bytes=24 by kernel_rfl];omega) Ua;rw [show(Tryz.prog.info? 137).get!.size=3 by kernel_rfl] at jH;simp only [show((c.length:Int)+1).toNat=c.length+1 by omega] at jH;unfold frV at *
 go_enter Tryz.func35,Tryz.ntmps35
 go_upto_region 7 with (first|(go_at_call 59;refine(fq _).mono ?_;rintro r w1 ⟨rfl,ac⟩;have af:w.heap.size+2<=w1.heap.size:=V9;have g0:=Na w1 (w.heap.size+1) 0 0 (Ja ac Uq);have g1:=Na w1 (w.heap.size+1) 1 0 (Ja ac Uq);have f0:=Nc w1 (w.heap.size+1) 0 ((Jf ac _ _ Ul).trans Uq);have f1:=Nc w1 (w.heap.size+1) 1 ((Jf ac _ _ Ul).trans Uq);have aC:=Nd w w1 Jb))
 refine Jo fun V hV=>?_;have bK:=Nd w1 V Mv;have dZ:=Jd aC bK;have hpV:Zv V w1.heap.size (List.replicate (c.length+1) Pl.no):=by rw [hV];exact(Jy2 w1 (c.length+1) 137).later Ul (Jc (Nt) _)
 have x0:=Nb V (w1.heap.size+1) 0 (.slice (some ⟨w1.heap.size,0,none⟩) (c.length+1) (c.length+1)) U3;have x1:=Na V (w1.heap.size+1) 1 0 U3;have x2:=Na V (w1.heap.size+1) 2 0 U3;have fx:∀o,V.frozen? ⟨w1.heap.size+1,o,none⟩=false:=by intro o;rw [hV];go_simp
 have k0:=Na V w.heap.size 0 f.s (Ja bK (Ja ac Uq));have k1:=Na V w.heap.size 1 f.o (Ja bK (Ja ac Uq));have k2:=Na V w.heap.size 2 f.n (Ja bK (Ja ac Uq));have k3:=Na V w.heap.size 3 f.i (Ja bK (Ja ac Uq));have k4:=Na V w.heap.size 4 f.u (Ja bK (Ja ac Uq));have xe:(List.replicate (c.length+1) Pl.no)[0]?=some Pl.no:=T9;obtain⟨p0,p1,p2⟩:=hpV.cell 0 Pl.no xe;have hfp:=hpV.fz 0;have mQ:w1.heap.size+2<=V.heap.size:=Sc;have zc:=Nf hpV;clear hV hpV jH
 go_wp2_with fail
 refine Jo fun V2 bz=>?_
 have dS:Zv V2 w1.heap.size (Jdk c.length):=by
  rw [bz,<-Jr0];exact zc.out.set (p:=⟨true,0,0⟩) (fun o ho=>J5 _ _ _ _ _ Ua) (Nx _ _ _ p0) ((J5 _ _ _ _ _ Ux).trans p1) ((J5 _ _ _ _ _ Ux).trans p2) (fun o=>World.frozen?_setCell ..)
 have aq:=Nd w V2 (by rw [bz];exact Below.setCell dZ (show w.heap.size<=w1.heap.size by omega) _)
 have ze:w1.heap.size+2<=V2.heap.size:=by rw [bz];simpa using mQ
 have x0':=Nb V2 (w1.heap.size+1) 0 (.slice (some ⟨w1.heap.size,0,none⟩) (c.length+1) (c.length+1)) (by rw [bz,Qm _ _ _ _ _ _ Ua];exact x0)
 have x1':=Na V2 (w1.heap.size+1) 1 0 (by rw [bz,Qm _ _ _ _ _ _ Ua];exact x1)
 have x2':=Na V2 (w1.heap.size+1) 2 0 (by rw [bz,Qm _ _ _ _ _ _ Ua];exact x2)
 have fx':∀o,V2.frozen? ⟨w1.heap.size+1,o,none⟩=false:=fun o=>by rw [bz,World.frozen?_setCell];exact fx o
 have iP:J6 (fun b=>b=w1.heap.size\/b=w1.heap.size+1) V V2:=by rw [bz];exact(J6.refl V).setCell (.inl rfl) _ _
 have k0':=iP.cell (b:=w.heap.size) Ua k0;have k1':=iP.cell (b:=w.heap.size) Ua k1;have k2':=iP.cell (b:=w.heap.size) Ua k2;have k3':=iP.cell (b:=w.heap.size) Ua k3;have k4':=iP.cell (b:=w.heap.size) Ua k4;have r0':=iP.cell (b:=w.heap.size+1) Ua (Ja bK g0);have r1':=iP.cell (b:=w.heap.size+1) Ua (Ja bK g1);have s0':=Nc V2 (w.heap.size+1) 0 (by rw [bz,World.frozen?_setCell];exact(Jf bK _ _ Ua).trans f0)
 have s1':=Nc V2 (w.heap.size+1) 1 (by rw [bz,World.frozen?_setCell];exact(Jf bK _ _ Ua).trans f1)
 have cP:Jic w w1.heap.size c.length f V2:=⟨aq,⟨Ua,ze⟩,⟨k0',k1',k2',k3',k4'⟩,⟨r0',r1',s0',s1'⟩,⟨x0',x2'⟩,fx'⟩;have cJ:=Nf cP;have jW:=Nf dS;clear cP dS bz x0 x1 x2 fx k0 k1 k2 k3 k4 p0 p1 p2 hfp zc iP xe g0 g1 f0 f1 bK dZ ac k0' k1' k2' k3' k4' r0' r1' s0' s1' x0' x2' fx' aq ze mQ aC fq;generalize w1.heap.size=B at *
 go_loopw [37] (fun i wr=>∃(k:Nat) (ps:List Pl) (dep:Int),k<=c.length/\i = .int .i64 k/\Hid (Jaa k c.length dep ps)/\Hid (goJ f c.length k (c.drop k) ps dep=J)/\Hid (Zv wr B ps)/\wr.cell? ⟨B+1,1,none⟩=some (.int .i64 dep)/\Hid (Jic w B c.length f wr)) (fun i _=>c.length-(intOf i).toNat)
 case atStart=>exact⟨0,Jdk c.length,0,Np,rfl,Nf (Jaa.start _),Nf HJ.out.symm,jW,x1',cJ⟩
 case round=>
  obtain⟨k,ps,dep,hk,rfl,aw,zg,dS,x1,cP⟩:=hrel;obtain⟨ab,⟨hz1',zh⟩,⟨k0,k1,k2,k3,k4⟩,⟨r0,r1,s0,s1⟩,⟨x0,x2⟩,fx⟩:=id cP.out;have lu:=lt0 w wr;have ud:=ltA w 1 wr;have hyB:B<wr.heap.size:=Ua;have hyB1:B+1<wr.heap.size:=Ua
  by_cases am:k<c.length
  ·have hx:c[k]?=some c[k]:=Ng am;have hdr:c.drop k=c[k] :: c.drop (k+1):=No am;have hI:=HN.out c[k] (Nj am);generalize c[k]=x at hx hdr hI;obtain⟨op,N⟩:=x;obtain⟨b,off,hA,aH,y0,y1⟩:=(HC.out.later ab).get hx;subst hA;have hg:=zg.out;rw [hdr,goJ] at hg;have ai:=aw.out.len;have uB:=fun W' (hb:Below wr.heap.size wr W')=>Jp0 (B+1) B ps dep k c.length op N f W' Ua (by rw [ai];exact Ja hb x0) (Ja hb x1) ((Jf hb _ _ Ua).trans (fx 1)) (dS.out.later Ua hb) Dx aw.out am Ua hI;have uC:=aw.out.one (f:=f) (at_:=k) (i:=(op,N));dsimp only at y0 y1;unfold frV at uB;generalize Jct f k (op,N) ps dep=res at *;have zi:=Nf uB;clear uB hx hdr ai hI
   by_cases he:res.1=0
   ·rw [if_neg Ua] at hg;obtain⟨e,ps2,dep2⟩:=res;dsimp only at *;subst he;have HG:=Nf hg;have HOK2:=Nf (uC rfl);clear zg HJ jW cJ aw uC dS x1' hg
    go_wp2_with (go_at_call 60;go_loud (refine(zi.out _ Jb).mono ?_;rintro r w3 ⟨rfl,ip,dU,hx3,hx4,fe⟩;have hj3:=(cP.out.later (show Below wr.heap.size wr _ from Jb)).kept dU hx3 hx4 fe;obtain⟨bT,wT⟩:=ip rfl))
    go_roundw
    case rel=>exact⟨k+1,ps2,dep2,Ua,Up,HOK2,HG,Nf bT,wT,Nf hj3⟩
    case measure=>simp [intOf];omega
   ·rw [if_pos he] at hg;subst hg;have HE:=Nf he;have te:(res.1 != 0)=true:=Ta;clear he zg HJ jW cJ aw uC dS x1'
    go_wp2_with (go_at_call 60;go_loud (refine(zi.out _ Jb).mono ?_;rintro r w3 ⟨rfl,-,dU,hx3,hx4,fe⟩;have hj3:=(cP.out.later (show Below wr.heap.size wr _ from Jb)).kept dU hx3 hx4 fe;obtain⟨en,-,-,⟨r03,r13,s03,s13⟩,-,-⟩:=id hj3))
    refine Nv (v:= .tuple #[.agg #[.int .i64 0,.int .i64 0],.int .i64 res.1,.int .i64 k]) L4 rfl ⟨rfl,?_⟩;exact Below.setCell (Below.setCell en (show w.heap.size<=w.heap.size+1 by omega) _) (show w.heap.size<=w.heap.size+1 by omega) _
  ·obtain rfl:k=c.length:=Ua;have hg:=zg.out;rw [Nn,goJ] at hg;have ai:=aw.out.len;have hx:ps[c.length]?=some ps[c.length]:=Ng Ua;generalize ps[c.length]=p at hx;rw [Jrn hx] at hg;obtain⟨b0,b1,b2⟩:=dS.out.cell c.length p hx;have fx2:=fx 2;clear ai hx zg HJ jW cJ aw dS x1' HC HN
   by_cases hd:p.d=0
   ·rw [if_neg Ua] at hg;subst hg;have td:(p.d != 0)=false:=G9;obtain⟨pm,pd,pf⟩:=p;dsimp only at *;subst hd
    go_wp2_with fail
    refine Nv (v:= .tuple #[.agg #[.int .i64 dep,.int .i64 pf],.int .i64 0,.int .i64 0]) L4 rfl ⟨rfl,?_⟩;exact Jc (Below.setCell (Below.setCell (Below.setCell ab (show w.heap.size<=B+1 by omega) _) (show w.heap.size<=w.heap.size+1 by omega) _) (show w.heap.size<=w.heap.size+1 by omega) _) _
   ·rw [if_pos Ua] at hg;subst hg;have td:(p.d != 0)=true:=G9;clear hd
    go_wp2_with fail
    refine Nv (v:= .tuple #[.agg #[.int .i64 0,.int .i64 0],.int .i64 12,.int .i64 c.length]) L4 rfl ⟨rfl,?_⟩;exact Jc (Below.setCell (Below.setCell ab (show w.heap.size<=w.heap.size+1 by omega) _) (show w.heap.size<=w.heap.size+1 by omega) _) _
theorem Jv5 {op N:Int} (h:Qj (op,N)=0):1<=op/\op<=11:=by
 unfold Qj at h;dsimp only at h
 by_cases h0:Qp op=0
 ·rw [if_pos h0] at h;exact absurd h Ux
 unfold Qp at h0
 repeat' split at h0
 all_goals omega
theorem Js2 {c:List (Int×Int)} {k:Nat} {x:Int×Int} (h:c[k]?=some x):Ja7 (c.take (k+1))=Ja7 (c.take k) ++ Jdm x:=by
 rw [List.take_add_one,h];exact Js9 _ _
theorem Jjg (c:List (Int×Int)) (A:Option Addr) (cap:Nat) (w:World) (hc:J3 w c A cap) (hl:c.length<=600) (hr:∀i∈c,Qj i=0) (hN:∀i∈c,I32 i.2) :
  Calls Tryz.prog 100 #[.slice A c.length cap] w (Y8 w (Ja7 c)):=by
 unfold Y8;have fG:=hc.2.1;have bO:=hc.1;unfold maxLen at fG;have tb:¬(600:Int)<(c.length:Int):=Ua;have HC:=Nf hc;have HN:=Nf hN;have HRR:=Nf hr;clear hc hN hr
 go_enter Tryz.func100,Tryz.ntmps100
 go_wp2_with fail
 go_loopw [4,14] (fun v i wr=>∃k:Nat,k<=c.length/\i = .int .i64 k/\wr.ownsRow w.heap.size 5 1 v (Ja7 (c.take k)).length (byU (Ja7 (c.take k)))/\Below w.heap.size w wr) (fun _ i _=>c.length-(intOf i).toNat)
 case atStart=>exact⟨0,Np,rfl,Nw,Nt⟩
 case round=>
  obtain⟨k,hk,rfl,ae,ab⟩:=hrel;have hz:=ab.size
  by_cases am:k<c.length
  ·have hx:c[k]?=some c[k]:=Ng am;have hI:=HN.out c[k] (Nj am);have hR:=HRR.out c[k] (Nj am);generalize c[k]=x at hx hI hR;obtain⟨op,N⟩:=x;obtain⟨b,off,rfl,aH,y0,y1⟩:=(HC.out.later ab).get hx;have aP:=Js2 hx;have bI:=Jit (c.take k);have aD:=Jnq (op,N);rw [List.length_take] at bI;have gl:=fun W=>Js5 op N W hR hI (Jv5 hR);unfold Y8 at gl;have eZ:=Nf aP;dsimp only at y0 y1;generalize Jdm (op,N)=bs at *;generalize dV:Ja7 (c.take k)=ins at *;clear aP hx hI hR dV
   go_wp2_with (first
    | (go_at_call 124;refine(gl _).mono ?_;rintro r w2 ⟨⟨v2,rfl,ao⟩,aq⟩;obtain⟨A2,c2,rfl,aY⟩:=Qc.of_own ao)
    | (at_builtin;go_loud (refine K6 rfl (.tmp 26) (.tmp 27) 98 rfl w.heap.size 5 _ 1 1 Tryz.underlying98 Jgl rfl Ua _ ins.length (byU ins) A2 bs.length c2 (byU bs) rfl (Jy (Js ae) aq) rfl aY.2.2 (Jgm _) Ua Ua Ds ?_;intro v3 w3 aE aM)))
   go_roundw
   case rel=>exact⟨k+1,Ua,Up,by rw [eZ.out,Jeu,Nk];exact aE,(Jd ab (Jd (Jc (Nt) _) aq)).trans aM⟩
   case measure=>simp [intOf];omega
  ·exact Uge
structure ImA where
 A1:Option Addr
 c1:Nat
 A2:Option Addr
 c2:Nat
 A3:Option Addr
 c3:Nat
def imV (m:Im) (a:ImA):Value:= .agg #[.int .u32 m.ver,.int .u32 m.fro,.int .i64 m.eld,.int .i64 m.fr.s,.int .i64 m.fr.o,.int .i64 m.fr.n,.int .i64 m.fr.i,.int .i64 m.fr.u,.slice a.A1 m.first.length a.c1,.slice a.A2 m.step.length a.c2,.slice a.A3 m.move.length a.c3,.int .i64 m.sf,.int .i64 m.mf]
structure Jd5 (W:World) (m:Im) (a:ImA):Prop where
 first:Qc W (nuI m.first) m.first.length a.A1 a.c1
 step:J3 W m.step a.A2 a.c2
 move:J3 W m.move a.A3 a.c3
theorem Jd5.later {W W':World} {m:Im} {a:ImA} (h:Jd5 W m a) (hb:Below W.heap.size W W'):Jd5 W' m a:=⟨h.first.later hb,h.step.later hb,h.move.later hb⟩
structure Jsj (m:Im):Prop where
 ver:0<=m.ver/\m.ver<4294967296
 fro:0<=m.fro/\m.fro<4294967296
 first:∀x∈m.first,I32 x
 step:∀i∈m.step,I32 i.2
 move:∀i∈m.move,I32 i.2
theorem Jtt (m:Im) (a:ImA) (w:World):Calls Tryz.prog 93 #[imV m a] w fun r w'=>r = .returned (frV m.moves)/\Below w.heap.size w w':=by
 unfold imV frV Im.moves;dsimp only
 go_enter Tryz.func93,Tryz.ntmps93
 go_wp2_with fail
 refine Nv (v:= .agg #[.int .i64 0,.int .i64 m.eld,.int .i64 m.fr.n,.int .i64 0,.int .i64 0]) (by simp [results,Tryz.results93,go_sem, *]) rfl ⟨rfl,?_⟩;exact Km
theorem Jmr (c:List (Int×Int)) (A:Option Addr) (cap:Nat) (f:Fr) (fuel:Int) (w:World) (hc:J3 w c A cap) (hN:∀i∈c,I32 i.2) :
  Calls Tryz.prog 92 #[.slice A c.length cap,frV f,.int .i64 fuel] w fun r w'=>r = .returned (.int .i64 (Jcj c f fuel))/\Below w.heap.size w w':=by
 have hj:=fun W h=>Jmz c A cap f W (hc.later h) hN;obtain⟨R,hR⟩:∃R,R=Jcj c f fuel:=⟨_,rfl⟩;rw [<-hR];unfold Jcj at hR;unfold Jk7 frV at *;clear hc hN;generalize (Yi c f).1.1=dep at *;generalize (Yi c f).1.2=fu at *;generalize (Yi c f).2.1=e at *;generalize (Yi c f).2.2=at_ at *
 by_cases h0:e=0
 ·subst h0
  by_cases hf:fu=fuel
  ·rw [if_neg (by simp [hf])] at hR;have tf:(fu != fuel)=false:=by simpa using hf
   exact Ubm
  ·rw [if_pos ⟨rfl,hf⟩] at hR;have tf:(fu != fuel)=true:=by simpa using hf
   exact Ubm
 ·rw [if_neg (fun h=>h0 h.1)] at hR;have te:(e == 0)=false:=Mr;have HR:=Nf hR;clear hR h0
  go_enter Tryz.func92,Tryz.ntmps92
  go_wp2_with (go_at_call 35;refine(hj _ Jb).mono ?_;rintro r w1 ⟨rfl,ac⟩)
  go_ret;exact⟨Jm HR.out.symm,Jb⟩
theorem Qc.own2 {w:World} {base:Nat} {e:TypeId} {xs:List Value} {n cap:Nat} {A:Option Addr} (h:w.ownsRow base e 1 (.slice A n cap) n xs):Qc w xs n A cap:=by
 obtain⟨A2,c2,hv,hc⟩:=Qc.of_own h;injection hv with e1 e2 e3;subst e1 e3;exact hc
structure Jf6 (W:World) (gb gk:Nat) (l:List Int):Prop where
 b:∃A cap,W.cell? ⟨gb,0,none⟩=some (.slice A l.length cap)/\Qc W (byU l) l.length A cap
 fz:W.frozen? ⟨gb,0,none⟩=false
 ok:W.cell? ⟨gk,0,none⟩=some (.bool true)
 ne:gb≠gk
theorem Jf6.lt {W:World} {gb gk:Nat} {l:List Int} (h:Jf6 W gb gk l):gb<W.heap.size/\gk<W.heap.size:=by
 obtain⟨A,cap,h1,_⟩:=h.b;exact⟨Nu h1,Nu h.ok⟩
theorem Jf6.later {W W':World} {gb gk:Nat} {l:List Int} (h:Jf6 W gb gk l) (hb:Below W.heap.size W W'):Jf6 W' gb gk l:=by
 obtain⟨A,cap,h1,h2⟩:=h.b;exact⟨⟨A,cap,Ja hb h1,h2.later hb⟩,(Jf hb _ _ h.lt.1).trans h.fz,Ja hb h.ok,h.ne⟩
def Jze (W:World) (gb gk:Nat) (l:List Int) (r:Ending) (w':World):Prop:=r = .returned (.tuple #[])/\Jf6 w' gb gk l/\J6 (fun k=>k=gb) W w'
theorem Jw7 (gb gk:Nat) (l bs:List Int) (width:Int) (n:Nat) (W:World) (h:Jf6 W gb gk l)
  (iF:∀(A:Option Addr) (cap:Nat) (W:World),Qc W (byU l) l.length A cap->Calls Tryz.prog 95 #[.slice A l.length cap,.int .i64 width,.int .u64 n] W (Y8 W (l ++ bs))) :
  Calls Tryz.prog 94 #[.int .i64 width,.int .u64 n,.pointer (some ⟨gb,0,none⟩),.pointer (some ⟨gk,0,none⟩)] W (Jze W gb gk (l ++ bs)):=by
 obtain⟨⟨A,cap,b0,hc⟩,fz,ok,ne⟩:=h;have am:=Nu b0;have az:=fun W' hb=>iF A cap W' (hc.later hb);clear iF hc;generalize l ++ bs=l2 at *;unfold Y8 at az
 go_enter Tryz.func94,Tryz.ntmps94
 go_wp2_with (go_at_call 95;go_loud (refine(az _ Jb).mono ?_;rintro r w2 ⟨⟨v,rfl,ae⟩,aq⟩;obtain⟨A2,c2,rfl,aY⟩:=Qc.of_own ae;have b0':=Ja aq b0;have fz':=(Jf aq gb 0 am).trans fz;have ok':=Ja aq ok))
 go_end0
 refine⟨rfl,⟨⟨A2,c2,Nx _ _ _ b0',?_⟩,(World.frozen?_setCell ..).trans fz',(Qm _ _ _ _ _ _ (Ne.symm ne)).trans ok',ne⟩,(J6.bel (S:=fun k=>k=gb) aq).setCell rfl _ _⟩;exact Qc.own2 (Kn ae (fun b hb he=>Ft) _ _)
theorem Jwn (gb gk:Nat) (l x:List Int) (A2:Option Addr) (cap2:Nat) (W:World) (h:Jf6 W gb gk l) (hx:Qc W (byU x) x.length A2 cap2) (hl:l.length<=100000) (hn:x.length<=65535) :
  Calls Tryz.prog 96 #[.slice A2 x.length cap2,.int .i64 0,.pointer (some ⟨gb,0,none⟩),.pointer (some ⟨gk,0,none⟩)] W (Jze W gb gk (l ++ Jcs x)):=by
 obtain⟨⟨A,cap,b0,hc⟩,fz,ok,ne⟩:=h;have am:=Nu b0;have az:=fun W' (hb:Below W.heap.size W W')=>Jq2 l x A cap A2 cap2 W' (hc.later hb) (hx.later hb) hl hn;clear hc hx;generalize l ++ Jcs x=l2 at *;unfold Y8 at az
 go_enter Tryz.func96,Tryz.ntmps96
 go_wp2_with (go_at_call 97;go_loud (refine(az _ Jb).mono ?_;rintro r w2 ⟨⟨v,rfl,ae⟩,aq⟩;obtain⟨A2,c2,rfl,aY⟩:=Qc.of_own ae;have b0':=Ja aq b0;have fz':=(Jf aq gb 0 am).trans fz;have ok':=Ja aq ok))
 go_end0
 refine⟨rfl,⟨⟨A2,c2,Nx _ _ _ b0',?_⟩,(World.frozen?_setCell ..).trans fz',(Qm _ _ _ _ _ _ (Ne.symm ne)).trans ok',ne⟩,(J6.bel (S:=fun k=>k=gb) aq).setCell rfl _ _⟩;exact Qc.own2 (Kn ae (fun b hb he=>Ft) _ _)
end Go.Proofs.YtknfcamdfdfoeaaGreatDoor
