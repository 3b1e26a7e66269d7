/- Lemmas. -/
import Derived.Test.YtdgjplldlfeolaaGreatDoorZ36
import Derived.Test.YtdgjplldlfeolaaGreatDoorZ18
import Derived.Test.YtdgjplldlfeolaaGreatDoorZ35
import Derived.Test.YtdgjplldlfeolaaGreatDoorZ42
import Derived.Test.YtdgjplldlfeolaaGreatDoorZ37
set_option linter.unusedVariables false
set_option linter.unusedSimpArgs false
set_option maxRecDepth 100000
set_option maxHeartbeats 64000000
namespace Go.Proofs.YtdgjplldlfeolaaGreatDoor
open Go.RowKit Go.Sort
theorem Jir (W:World) (z:Array Value) (n:Nat) (t:TypeId) (o:Nat) (ho:o<n):(W.alloc (.cells (madeCells z n) t)).cell? ⟨W.heap.size,o,none⟩=some (z[o % z.size]!):=by
 rw [Kw];unfold madeCells;rw [Array.getElem?_map,Array.getElem?_range,if_pos ho];rfl
theorem Jy2 (W:World) (n:Nat) (t:TypeId):Zv (W.alloc (.cells (madeCells #[.bool false,.int .i64 0,.int .i64 0] (n * 3)) t)) W.heap.size (List.replicate n Pl.no):=by
 refine⟨fun k p hk=>?_,fun o=>by go_simp⟩;rw [List.getElem?_replicate] at hk
 split at hk
 ·injection hk with hk;subst hk;refine⟨?_,?_,?_⟩
  ·rw [Jir _ _ _ _ _ (by omega)];simp only [List.size_toArray,List.length_cons,List.length_nil,show k * 3 % (0+1+1+1)=0 by omega];rfl
  ·rw [Jir _ _ _ _ _ (by omega)];simp only [List.size_toArray,List.length_cons,List.length_nil,show(k * 3+1) % (0+1+1+1)=1 by omega];rfl
  ·rw [Jir _ _ _ _ _ (by omega)];simp only [List.size_toArray,List.length_cons,List.length_nil,show(k * 3+2) % (0+1+1+1)=2 by omega];rfl
 ·cases hk
theorem Jr0 (n:Nat):(List.replicate (n+1) Pl.no).set 0 ⟨true,0,0⟩=Jdk n:=by rw [List.replicate_succ];rfl
theorem J3.get {w:World} {l:List (Int×Int)} {A:Option Addr} {cap:Nat} (h:J3 w l A cap) {k:Nat} {x:Int×Int} (hk:l[k]?=some x) :
  ∃b off,A=some ⟨b,off,none⟩/\b<w.heap.size/\w.cell? ⟨b,off+k * 2,none⟩=some (.int .i64 x.1)/\w.cell? ⟨b,off+k * 2+1,none⟩=some (.int .i32 x.2):=by
 have am:=(List.getElem?_eq_some_iff.1 hk).1;obtain⟨b,off,hA,hc⟩:=h.2.2.2 (by omega);obtain⟨h1,h2⟩:=Joi l k x hk;have c1:=hc _ _ h1;have c2:=hc _ _ h2;rw [show off+(k * 2+1)=off+k * 2+1 by omega] at c2;exact⟨b,off,hA,block_lt_of_cell c1,c1,c2⟩
structure Jic (w:World) (B n:Nat) (f:Fr) (wr:World):Prop where
 b:Below w.heap.size w wr
 z:w.heap.size+2<=B/\B+2<=wr.heap.size
 k:wr.cell? ⟨w.heap.size,0,none⟩=some (.int .i64 f.s)/\wr.cell? ⟨w.heap.size,1,none⟩=some (.int .i64 f.o)/\wr.cell? ⟨w.heap.size,2,none⟩=some (.int .i64 f.n)/\wr.cell? ⟨w.heap.size,3,none⟩=some (.int .i64 f.i)/\wr.cell? ⟨w.heap.size,4,none⟩=some (.int .i64 f.u)
 r:wr.cell? ⟨w.heap.size+1,0,none⟩=some (.int .i64 0)/\wr.cell? ⟨w.heap.size+1,1,none⟩=some (.int .i64 0)/\wr.frozen? ⟨w.heap.size+1,0,none⟩=false/\wr.frozen? ⟨w.heap.size+1,1,none⟩=false
 x:wr.cell? ⟨B+1,0,none⟩=some (.slice (some ⟨B,0,none⟩) (n+1) (n+1))/\wr.cell? ⟨B+1,2,none⟩=some (.int .i64 0)
 fx:∀o,wr.frozen? ⟨B+1,o,none⟩=false
theorem Jic.later {w:World} {B n:Nat} {f:Fr} {W W':World} (h:Jic w B n f W) (hb:Below W.heap.size W W'):Jic w B n f W':=by
 have hz:=h.z
 exact⟨Jd h.b hb,⟨hz.1,by have:=hb.size;omega⟩,⟨Ja hb h.k.1,Ja hb h.k.2.1,Ja hb h.k.2.2.1,Ja hb h.k.2.2.2.1,Ja hb h.k.2.2.2.2⟩,
  ⟨Ja hb h.r.1,Ja hb h.r.2.1,(Jf hb _ _ (by omega)).trans h.r.2.2.1,(Jf hb _ _ (by omega)).trans h.r.2.2.2⟩,⟨Ja hb h.x.1,Ja hb h.x.2⟩,fun o=>(Jf hb _ _ (by omega)).trans (h.fx o)⟩
theorem Jic.kept {w:World} {B n:Nat} {f:Fr} {W W':World} (h:Jic w B n f W) (hk:J6 (fun b=>b=B\/b=B+1) W W') (x0:W'.cell? ⟨B+1,0,none⟩=W.cell? ⟨B+1,0,none⟩) (x2:W'.cell? ⟨B+1,2,none⟩=W.cell? ⟨B+1,2,none⟩) (fz:∀o,W'.frozen? ⟨B+1,o,none⟩=W.frozen? ⟨B+1,o,none⟩):Jic w B n f W':=by
 have hz:=h.z;have hw:=h.b.size;have c:=fun(b o:Nat) (v:Value) (hb:¬(b=B\/b=B+1)) hc=>hk.cell (b:=b) (o:=o) (v:=v) hb hc;have fr:=fun(b o:Nat) (hl:b<W.heap.size) (hb:¬(b=B\/b=B+1))=>World.frozen?_of_block (a:=⟨b,o,none⟩) (hk.block b hl hb)
 exact⟨hk.below h.b (fun j hj=>by omega),⟨hz.1,by have:=hk.size;omega⟩,⟨c _ _ _ (by omega) h.k.1,c _ _ _ (by omega) h.k.2.1,c _ _ _ (by omega) h.k.2.2.1,c _ _ _ (by omega) h.k.2.2.2.1,c _ _ _ (by omega) h.k.2.2.2.2⟩,
  ⟨c _ _ _ (by omega) h.r.1,c _ _ _ (by omega) h.r.2.1,(fr _ _ (by omega) (by omega)).trans h.r.2.2.1,(fr _ _ (by omega) (by omega)).trans h.r.2.2.2⟩,⟨x0.trans h.x.1,x2.trans h.x.2⟩,fun o=>(fz o).trans (h.fx o)⟩
def Jk7 (J:(Int×Int)×Int×Int):Value:= .tuple #[.agg #[.int .i64 J.1.1,.int .i64 J.1.2],.int .i64 J.2.1,.int .i64 J.2.2]
theorem Jmz (c:List (Int×Int)) (A:Option Addr) (cap:Nat) (f:Fr) (w:World) (hc:J3 w c A cap) (hN:∀i∈c,I32 i.2) :
  Calls Tryz.prog 29 #[.slice A c.length cap,frV f] w fun r w'=>r = .returned (Jk7 (Yi c f))/\Below w.heap.size w w':=by
 have fq:=fun W=>Jt4 f W;obtain⟨J,hJ⟩:∃J,J=Yi c f:=⟨_,rfl⟩;rw [<-hJ];unfold Yi at hJ;have bO:=hc.1;have fG:=hc.2.1;unfold maxLen at fG;unfold Jk7
 by_cases hg:f.good=false
 ·rw [if_pos hg] at hJ;rw [hg] at fq;simp only [Bool.false_eq_true,if_false] at fq;subst hJ;unfold frV at *;clear hg hN hc
  go_enter Tryz.func29,Tryz.ntmps29
  go_wp2_with (first|(go_at_call 56;refine(fq _).mono ?_;rintro r w1 ⟨rfl,ac⟩;have af:w.heap.size+2<=w1.heap.size:=(by have:=ac.size;simpa using this);have g0:w1.cell? ⟨w.heap.size+1,0,none⟩=some (.int .i64 0):=Ja ac (by go_simp);have g1:w1.cell? ⟨w.heap.size+1,1,none⟩=some (.int .i64 0):=Ja ac (by go_simp);have f0:w1.frozen? ⟨w.heap.size+1,0,none⟩=false:=(Jf ac _ _ (by simp)).trans (by go_simp);have f1:w1.frozen? ⟨w.heap.size+1,1,none⟩=false:=(Jf ac _ _ (by simp)).trans (by go_simp);have aC:Below w.heap.size w w1:=Jb))
  refine bodyPost_ret (v:= .tuple #[.agg #[.int .i64 0,.int .i64 0],.int .i64 1,.int .i64 0]) (by simp [results,Tryz.results29,go_sem, *]) rfl ⟨rfl,?_⟩;exact Below.setCell (Below.setCell aC (show w.heap.size<=w.heap.size+1 by omega) _) (show w.heap.size<=w.heap.size+1 by omega) _
 rw [if_neg hg] at hJ;rw [show f.good=true by simpa using hg] at fq;simp only [if_true] at fq;clear hg
 by_cases dP:600<c.length
 ·rw [if_pos dP] at hJ;subst hJ;have tb:(600:Int)<(c.length:Int):=by omega
  unfold frV at *;clear hN hc
  go_enter Tryz.func29,Tryz.ntmps29
  go_wp2_with (first|(go_at_call 56;refine(fq _).mono ?_;rintro r w1 ⟨rfl,ac⟩;have af:w.heap.size+2<=w1.heap.size:=(by have:=ac.size;simpa using this);have g0:w1.cell? ⟨w.heap.size+1,0,none⟩=some (.int .i64 0):=Ja ac (by go_simp);have g1:w1.cell? ⟨w.heap.size+1,1,none⟩=some (.int .i64 0):=Ja ac (by go_simp);have f0:w1.frozen? ⟨w.heap.size+1,0,none⟩=false:=(Jf ac _ _ (by simp)).trans (by go_simp);have f1:w1.frozen? ⟨w.heap.size+1,1,none⟩=false:=(Jf ac _ _ (by simp)).trans (by go_simp);have aC:Below w.heap.size w w1:=Jb))
  refine bodyPost_ret (v:= .tuple #[.agg #[.int .i64 0,.int .i64 0],.int .i64 3,.int .i64 0]) (by simp [results,Tryz.results29,go_sem, *]) rfl ⟨rfl,?_⟩;exact Below.setCell (Below.setCell aC (show w.heap.size<=w.heap.size+1 by omega) _) (show w.heap.size<=w.heap.size+1 by omega) _
 rw [if_neg dP] at hJ;have tb:¬(600:Int)<(c.length:Int):=by omega
 have HC:=Lib.hid hc;have HN:=Lib.hid hN;have HJ:=Lib.hid hJ;clear hc hN hJ;have jH:=fun W:World=>run_make (P:=Tryz.prog) W 129 133 (Tryz.prog.info? 133).get! (.agg #[.bool false,.int .i64 0,.int .i64 0]) Tryz.underlying129 (by kernel_rfl) (by kernel_rfl) .i64 .i64 ((c.length:Int)+1) ((c.length:Int)+1) (by omega) (by omega) (by rw [show(Tryz.prog.info? 133).get!.bytes=24 by kernel_rfl];omega) (by omega);rw [show(Tryz.prog.info? 133).get!.size=3 by kernel_rfl] at jH;simp only [show((c.length:Int)+1).toNat=c.length+1 by omega] at jH;unfold frV at *
 go_enter Tryz.func29,Tryz.ntmps29
 go_upto_region 7 with (first|(go_at_call 56;refine(fq _).mono ?_;rintro r w1 ⟨rfl,ac⟩;have af:w.heap.size+2<=w1.heap.size:=(by have:=ac.size;simpa using this);have g0:w1.cell? ⟨w.heap.size+1,0,none⟩=some (.int .i64 0):=Ja ac (by go_simp);have g1:w1.cell? ⟨w.heap.size+1,1,none⟩=some (.int .i64 0):=Ja ac (by go_simp);have f0:w1.frozen? ⟨w.heap.size+1,0,none⟩=false:=(Jf ac _ _ (by simp)).trans (by go_simp);have f1:w1.frozen? ⟨w.heap.size+1,1,none⟩=false:=(Jf ac _ _ (by simp)).trans (by go_simp);have aC:Below w.heap.size w w1:=Jb))
 refine Jo fun V hV=>?_;have bK:Below w1.heap.size w1 V:=by rw [hV];exact Jc (Jc (Below.refl _ _) _) _
 have dZ:=Jd aC bK;have hpV:Zv V w1.heap.size (List.replicate (c.length+1) Pl.no):=by rw [hV];exact(Jy2 w1 (c.length+1) 133).later (by simp) (Jc (Below.refl _ _) _)
 have x0:V.cell? ⟨w1.heap.size+1,0,none⟩=some (.slice (some ⟨w1.heap.size,0,none⟩) (c.length+1) (c.length+1)):=by rw [hV];go_simp
 have x1:V.cell? ⟨w1.heap.size+1,1,none⟩=some (.int .i64 0):=by rw [hV];go_simp
 have x2:V.cell? ⟨w1.heap.size+1,2,none⟩=some (.int .i64 0):=by rw [hV];go_simp
 have fx:∀o,V.frozen? ⟨w1.heap.size+1,o,none⟩=false:=by intro o;rw [hV];go_simp
 have k0:V.cell? ⟨w.heap.size,0,none⟩=some (.int .i64 f.s):=Ja bK (Ja ac (by go_simp));have k1:V.cell? ⟨w.heap.size,1,none⟩=some (.int .i64 f.o):=Ja bK (Ja ac (by go_simp));have k2:V.cell? ⟨w.heap.size,2,none⟩=some (.int .i64 f.n):=Ja bK (Ja ac (by go_simp));have k3:V.cell? ⟨w.heap.size,3,none⟩=some (.int .i64 f.i):=Ja bK (Ja ac (by go_simp));have k4:V.cell? ⟨w.heap.size,4,none⟩=some (.int .i64 f.u):=Ja bK (Ja ac (by go_simp));have xe:(List.replicate (c.length+1) Pl.no)[0]?=some Pl.no:=by rw [List.replicate_succ];rfl
 obtain⟨p0,p1,p2⟩:=hpV.cell 0 Pl.no xe;have hfp:=hpV.fz 0;have mQ:w1.heap.size+2<=V.heap.size:=by rw [hV];simp
 have zc:=Lib.hid hpV;clear hV hpV jH
 go_wp2_with fail
 refine Jo fun V2 bz=>?_
 have dS:Zv V2 w1.heap.size (Jdk c.length):=by
  rw [bz,<-Jr0];exact zc.out.set (p:=⟨true,0,0⟩) (fun o ho=>J5 _ _ _ _ _ (by omega)) (World.cell?_setCell_same _ _ _ p0) ((J5 _ _ _ _ _ (by decide)).trans p1) ((J5 _ _ _ _ _ (by decide)).trans p2) (fun o=>World.frozen?_setCell ..)
 have aq:Below w.heap.size w V2:=by rw [bz];exact Below.setCell dZ (show w.heap.size<=w1.heap.size by omega) _
 have ze:w1.heap.size+2<=V2.heap.size:=by rw [bz];simpa using mQ
 have x0':V2.cell? ⟨w1.heap.size+1,0,none⟩=some (.slice (some ⟨w1.heap.size,0,none⟩) (c.length+1) (c.length+1)):=by rw [bz,Qm _ _ _ _ _ _ (by omega)];exact x0
 have x1':V2.cell? ⟨w1.heap.size+1,1,none⟩=some (.int .i64 0):=by rw [bz,Qm _ _ _ _ _ _ (by omega)];exact x1
 have x2':V2.cell? ⟨w1.heap.size+1,2,none⟩=some (.int .i64 0):=by rw [bz,Qm _ _ _ _ _ _ (by omega)];exact x2
 have fx':∀o,V2.frozen? ⟨w1.heap.size+1,o,none⟩=false:=fun o=>by rw [bz,World.frozen?_setCell];exact fx o
 have iP:J6 (fun b=>b=w1.heap.size\/b=w1.heap.size+1) V V2:=by rw [bz];exact(J6.refl V).setCell (.inl rfl) _ _
 have k0':=iP.cell (b:=w.heap.size) (by omega) k0;have k1':=iP.cell (b:=w.heap.size) (by omega) k1;have k2':=iP.cell (b:=w.heap.size) (by omega) k2;have k3':=iP.cell (b:=w.heap.size) (by omega) k3;have k4':=iP.cell (b:=w.heap.size) (by omega) k4;have r0':=iP.cell (b:=w.heap.size+1) (by omega) (Ja bK g0);have r1':=iP.cell (b:=w.heap.size+1) (by omega) (Ja bK g1);have s0':V2.frozen? ⟨w.heap.size+1,0,none⟩=false:=by rw [bz,World.frozen?_setCell];exact(Jf bK _ _ (by omega)).trans f0
 have s1':V2.frozen? ⟨w.heap.size+1,1,none⟩=false:=by rw [bz,World.frozen?_setCell];exact(Jf bK _ _ (by omega)).trans f1
 have cP:Jic w w1.heap.size c.length f V2:=⟨aq,⟨by omega,ze⟩,⟨k0',k1',k2',k3',k4'⟩,⟨r0',r1',s0',s1'⟩,⟨x0',x2'⟩,fx'⟩;have cJ:=Lib.hid cP;have jW:=Lib.hid dS;clear cP dS bz x0 x1 x2 fx k0 k1 k2 k3 k4 p0 p1 p2 hfp zc iP xe g0 g1 f0 f1 bK dZ ac k0' k1' k2' k3' k4' r0' r1' s0' s1' x0' x2' fx' aq ze mQ aC fq;generalize w1.heap.size=B at *
 go_loopw [37] (fun i wr=>∃(k:Nat) (ps:List Pl) (dep:Int),k<=c.length/\i = .int .i64 k/\Hid (Jaa k c.length dep ps)/\Hid (goJ f c.length k (c.drop k) ps dep=J)/\Hid (Zv wr B ps)/\wr.cell? ⟨B+1,1,none⟩=some (.int .i64 dep)/\Hid (Jic w B c.length f wr)) (fun i _=>c.length-(intOf i).toNat)
 case atStart=>exact⟨0,Jdk c.length,0,Nat.zero_le _,rfl,Lib.hid (Jaa.start _),Lib.hid HJ.out.symm,jW,x1',cJ⟩
 case round=>
  obtain⟨k,ps,dep,hk,rfl,aw,zg,dS,x1,cP⟩:=hrel;obtain⟨ab,⟨hz1',zh⟩,⟨k0,k1,k2,k3,k4⟩,⟨r0,r1,s0,s1⟩,⟨x0,x2⟩,fx⟩:=id cP.out;have lu:w.heap.size<wr.heap.size:=by omega
  have ud:w.heap.size+1<wr.heap.size:=by omega
  have hyB:B<wr.heap.size:=by omega
  have hyB1:B+1<wr.heap.size:=by omega
  by_cases am:k<c.length
  ·have hx:c[k]?=some c[k]:=List.getElem?_eq_getElem am;have hdr:c.drop k=c[k] :: c.drop (k+1):=List.drop_eq_getElem_cons am;have hI:=HN.out c[k] (List.getElem_mem am);generalize c[k]=x at hx hdr hI;obtain⟨op,N⟩:=x;obtain⟨b,off,hA,aH,y0,y1⟩:=(HC.out.later ab).get hx;subst hA;have hg:=zg.out;rw [hdr,goJ] at hg;have ai:=aw.out.len;have uB:=fun W' (hb:Below wr.heap.size wr W')=>Jp0 (B+1) B ps dep k c.length op N f W' (by omega) (by rw [ai];exact Ja hb x0) (Ja hb x1) ((Jf hb _ _ (by omega)).trans (fx 1)) (dS.out.later (by omega) hb) (by have:=hb.size;omega) aw.out am (by omega) hI;have uC:=aw.out.one (f:=f) (at_:=k) (i:=(op,N));dsimp only at y0 y1;unfold frV at uB;generalize Jct f k (op,N) ps dep=res at *;have zi:=Lib.hid uB;clear uB hx hdr ai hI
   by_cases he:res.1=0
   ·rw [if_neg (by omega)] at hg;obtain⟨e,ps2,dep2⟩:=res;dsimp only at *;subst he;have HG:=Lib.hid hg;have HOK2:=Lib.hid (uC rfl);clear zg HJ jW cJ aw uC dS x1' hg
    go_wp2_with (go_at_call 57;go_loud (refine(zi.out _ Jb).mono ?_;rintro r w3 ⟨rfl,ip,dU,hx3,hx4,fe⟩;have hj3:=(cP.out.later (show Below wr.heap.size wr _ from Jb)).kept dU hx3 hx4 fe;obtain⟨bT,wT⟩:=ip rfl))
    go_roundw
    case rel=>exact⟨k+1,ps2,dep2,by omega,by go_num,HOK2,HG,Lib.hid bT,wT,Lib.hid hj3⟩
    case measure=>simp [intOf];omega
   ·rw [if_pos he] at hg;subst hg;have HE:=Lib.hid he;have te:(res.1 != 0)=true:=by simpa using he
    clear he zg HJ jW cJ aw uC dS x1'
    go_wp2_with (go_at_call 57;go_loud (refine(zi.out _ Jb).mono ?_;rintro r w3 ⟨rfl,-,dU,hx3,hx4,fe⟩;have hj3:=(cP.out.later (show Below wr.heap.size wr _ from Jb)).kept dU hx3 hx4 fe;obtain⟨en,-,-,⟨r03,r13,s03,s13⟩,-,-⟩:=id hj3))
    refine bodyPost_ret (v:= .tuple #[.agg #[.int .i64 0,.int .i64 0],.int .i64 res.1,.int .i64 k]) (by simp [results,Tryz.results29,go_sem, *]) rfl ⟨rfl,?_⟩;exact Below.setCell (Below.setCell en (show w.heap.size<=w.heap.size+1 by omega) _) (show w.heap.size<=w.heap.size+1 by omega) _
  ·obtain rfl:k=c.length:=by omega
   have hg:=zg.out;rw [List.drop_length,goJ] at hg;have ai:=aw.out.len;have hx:ps[c.length]?=some ps[c.length]:=List.getElem?_eq_getElem (by omega);generalize ps[c.length]=p at hx;rw [Jrn hx] at hg;obtain⟨b0,b1,b2⟩:=dS.out.cell c.length p hx;have fx2:=fx 2;clear ai hx zg HJ jW cJ aw dS x1' HC HN
   by_cases hd:p.d=0
   ·rw [if_neg (by omega)] at hg;subst hg;have td:(p.d != 0)=false:=by simpa using hd
    obtain⟨pm,pd,pf⟩:=p;dsimp only at *;subst hd
    go_wp2_with fail
    refine bodyPost_ret (v:= .tuple #[.agg #[.int .i64 dep,.int .i64 pf],.int .i64 0,.int .i64 0]) (by simp [results,Tryz.results29,go_sem, *]) rfl ⟨rfl,?_⟩;exact Jc (Below.setCell (Below.setCell (Below.setCell ab (show w.heap.size<=B+1 by omega) _) (show w.heap.size<=w.heap.size+1 by omega) _) (show w.heap.size<=w.heap.size+1 by omega) _) _
   ·rw [if_pos (by omega)] at hg;subst hg;have td:(p.d != 0)=true:=by simpa using hd
    clear hd
    go_wp2_with fail
    refine bodyPost_ret (v:= .tuple #[.agg #[.int .i64 0,.int .i64 0],.int .i64 12,.int .i64 c.length]) (by simp [results,Tryz.results29,go_sem, *]) rfl ⟨rfl,?_⟩;exact Jc (Below.setCell (Below.setCell ab (show w.heap.size<=w.heap.size+1 by omega) _) (show w.heap.size<=w.heap.size+1 by omega) _) _
theorem Jv5 {op N:Int} (h:Qj (op,N)=0):1<=op/\op<=11:=by
 unfold Qj at h;dsimp only at h
 by_cases h0:Qp op=0
 ·rw [if_pos h0] at h;exact absurd h (by decide)
 unfold Qp at h0
 repeat' split at h0
 all_goals omega
theorem Js2 {c:List (Int×Int)} {k:Nat} {x:Int×Int} (h:c[k]?=some x):Ja7 (c.take (k+1))=Ja7 (c.take k) ++ Jdm x:=by
 rw [List.take_add_one,h];exact Js9 _ _
theorem Jjg (c:List (Int×Int)) (A:Option Addr) (cap:Nat) (w:World) (hc:J3 w c A cap) (hl:c.length<=600) (hr:∀i∈c,Qj i=0) (hN:∀i∈c,I32 i.2) :
  Calls Tryz.prog 64 #[.slice A c.length cap] w (Y8 w (Ja7 c)):=by
 unfold Y8;have fG:=hc.2.1;have bO:=hc.1;unfold maxLen at fG;have tb:¬(600:Int)<(c.length:Int):=by omega
 have HC:=Lib.hid hc;have HN:=Lib.hid hN;have HRR:=Lib.hid hr;clear hc hN hr
 go_enter Tryz.func64,Tryz.ntmps64
 go_wp2_with fail
 go_loopw [4,14] (fun v i wr=>∃k:Nat,k<=c.length/\i = .int .i64 k/\wr.ownsRow w.heap.size 5 1 v (Ja7 (c.take k)).length (byU (Ja7 (c.take k)))/\Below w.heap.size w wr) (fun _ i _=>c.length-(intOf i).toNat)
 case atStart=>exact⟨0,Nat.zero_le _,rfl,World.ownsRow_nil _ _ _ _,Below.refl _ _⟩
 case round=>
  obtain⟨k,hk,rfl,ae,ab⟩:=hrel;have hz:=ab.size
  by_cases am:k<c.length
  ·have hx:c[k]?=some c[k]:=List.getElem?_eq_getElem am;have hI:=HN.out c[k] (List.getElem_mem am);have hR:=HRR.out c[k] (List.getElem_mem am);generalize c[k]=x at hx hI hR;obtain⟨op,N⟩:=x;obtain⟨b,off,rfl,aH,y0,y1⟩:=(HC.out.later ab).get hx;have aP:=Js2 hx;have bI:=Jit (c.take k);have aD:=Jnq (op,N);rw [List.length_take] at bI;have gl:=fun W=>Js5 op N W hR hI (Jv5 hR);unfold Y8 at gl;have eZ:=Lib.hid aP;dsimp only at y0 y1;generalize Jdm (op,N)=bs at *;generalize dV:Ja7 (c.take k)=ins at *;clear aP hx hI hR dV
   go_wp2_with (first
    | (go_at_call 98;refine(gl _).mono ?_;rintro r w2 ⟨⟨v2,rfl,ao⟩,aq⟩;obtain⟨A2,c2,rfl,aY⟩:=Qc.of_own ao)
    | (at_builtin;go_loud (refine K6 rfl (.tmp 26) (.tmp 27) 50 rfl w.heap.size 5 _ 1 1 Tryz.underlying50 Jgl rfl (by omega) _ ins.length (byU ins) A2 bs.length c2 (byU bs) rfl (Jy (Js ae) aq) rfl aY.2.2 (Jgm _) (by omega) (by omega) (by have:=aq.size;simp at this;omega) ?_;intro v3 w3 aE aM)))
   go_roundw
   case rel=>exact⟨k+1,by omega,by go_num,by rw [eZ.out,Jeu,List.length_append];exact aE,(Jd ab (Jd (Jc (Below.refl _ _) _) aq)).trans aM⟩
   case measure=>simp [intOf];omega
  ·obtain rfl:k=c.length:=by omega
   rw [List.take_length] at ae
   go_wp2_with fail
   go_ret2
   exact⟨⟨_,rfl,ae⟩,ab⟩
structure ImA where
 A1:Option Addr
 c1:Nat
 A2:Option Addr
 c2:Nat
 A3:Option Addr
 c3:Nat
def imV (m:Im) (a:ImA):Value:= .agg #[.int .u32 m.ver,.int .u32 m.fro,.int .i64 m.eld,.int .i64 m.fr.s,.int .i64 m.fr.o,.int .i64 m.fr.n,.int .i64 m.fr.i,.int .i64 m.fr.u,.slice a.A1 m.first.length a.c1,.slice a.A2 m.step.length a.c2,.slice a.A3 m.move.length a.c3,.int .i64 m.sf,.int .i64 m.mf]
structure Jd5 (W:World) (m:Im) (a:ImA):Prop where
 first:Qc W (nuI m.first) m.first.length a.A1 a.c1
 step:J3 W m.step a.A2 a.c2
 move:J3 W m.move a.A3 a.c3
theorem Jd5.later {W W':World} {m:Im} {a:ImA} (h:Jd5 W m a) (hb:Below W.heap.size W W'):Jd5 W' m a:=⟨h.first.later hb,h.step.later hb,h.move.later hb⟩
structure Jsj (m:Im):Prop where
 ver:0<=m.ver/\m.ver<4294967296
 fro:0<=m.fro/\m.fro<4294967296
 first:∀x∈m.first,I32 x
 step:∀i∈m.step,I32 i.2
 move:∀i∈m.move,I32 i.2
theorem Jtt (m:Im) (a:ImA) (w:World):Calls Tryz.prog 33 #[imV m a] w fun r w'=>r = .returned (frV m.moves)/\Below w.heap.size w w':=by
 unfold imV frV Im.moves;dsimp only
 go_enter Tryz.func33,Tryz.ntmps33
 go_wp2_with fail
 refine bodyPost_ret (v:= .agg #[.int .i64 0,.int .i64 m.eld,.int .i64 m.fr.n,.int .i64 0,.int .i64 0]) (by simp [results,Tryz.results33,go_sem, *]) rfl ⟨rfl,?_⟩;exact Km
theorem Jmr (c:List (Int×Int)) (A:Option Addr) (cap:Nat) (f:Fr) (fuel:Int) (w:World) (hc:J3 w c A cap) (hN:∀i∈c,I32 i.2) :
  Calls Tryz.prog 32 #[.slice A c.length cap,frV f,.int .i64 fuel] w fun r w'=>r = .returned (.int .i64 (Jcj c f fuel))/\Below w.heap.size w w':=by
 have hj:=fun W h=>Jmz c A cap f W (hc.later h) hN;obtain⟨R,hR⟩:∃R,R=Jcj c f fuel:=⟨_,rfl⟩;rw [<-hR];unfold Jcj at hR;unfold Jk7 frV at *;clear hc hN;generalize (Yi c f).1.1=dep at *;generalize (Yi c f).1.2=fu at *;generalize (Yi c f).2.1=e at *;generalize (Yi c f).2.2=at_ at *
 by_cases h0:e=0
 ·subst h0
  by_cases hf:fu=fuel
  ·rw [if_neg (by simp [hf])] at hR;have tf:(fu != fuel)=false:=by simpa using hf
   have HR:=Lib.hid hR;clear hR hf
   go_enter Tryz.func32,Tryz.ntmps32
   go_wp2_with (go_at_call 29;refine(hj _ Jb).mono ?_;rintro r w1 ⟨rfl,ac⟩)
   go_ret;exact⟨Jm HR.out.symm,Jb⟩
  ·rw [if_pos ⟨rfl,hf⟩] at hR;have tf:(fu != fuel)=true:=by simpa using hf
   have HR:=Lib.hid hR;clear hR hf
   go_enter Tryz.func32,Tryz.ntmps32
   go_wp2_with (go_at_call 29;refine(hj _ Jb).mono ?_;rintro r w1 ⟨rfl,ac⟩)
   go_ret;exact⟨Jm HR.out.symm,Jb⟩
 ·rw [if_neg (fun h=>h0 h.1)] at hR;have te:(e == 0)=false:=by simpa using h0
  have HR:=Lib.hid hR;clear hR h0
  go_enter Tryz.func32,Tryz.ntmps32
  go_wp2_with (go_at_call 29;refine(hj _ Jb).mono ?_;rintro r w1 ⟨rfl,ac⟩)
  go_ret;exact⟨Jm HR.out.symm,Jb⟩
theorem Qc.own2 {w:World} {base:Nat} {e:TypeId} {xs:List Value} {n cap:Nat} {A:Option Addr} (h:w.ownsRow base e 1 (.slice A n cap) n xs):Qc w xs n A cap:=by
 obtain⟨A2,c2,hv,hc⟩:=Qc.of_own h;injection hv with e1 e2 e3;subst e1 e3;exact hc
structure Jf6 (W:World) (gb gk:Nat) (l:List Int):Prop where
 b:∃A cap,W.cell? ⟨gb,0,none⟩=some (.slice A l.length cap)/\Qc W (byU l) l.length A cap
 fz:W.frozen? ⟨gb,0,none⟩=false
 ok:W.cell? ⟨gk,0,none⟩=some (.bool true)
 ne:gb≠gk
theorem Jf6.lt {W:World} {gb gk:Nat} {l:List Int} (h:Jf6 W gb gk l):gb<W.heap.size/\gk<W.heap.size:=by
 obtain⟨A,cap,h1,_⟩:=h.b;exact⟨block_lt_of_cell h1,block_lt_of_cell h.ok⟩
theorem Jf6.later {W W':World} {gb gk:Nat} {l:List Int} (h:Jf6 W gb gk l) (hb:Below W.heap.size W W'):Jf6 W' gb gk l:=by
 obtain⟨A,cap,h1,h2⟩:=h.b;exact⟨⟨A,cap,Ja hb h1,h2.later hb⟩,(Jf hb _ _ h.lt.1).trans h.fz,Ja hb h.ok,h.ne⟩
def Jze (W:World) (gb gk:Nat) (l:List Int) (r:Ending) (w':World):Prop:=r = .returned (.tuple #[])/\Jf6 w' gb gk l/\J6 (fun k=>k=gb) W w'
theorem Jw7 (gb gk:Nat) (l bs:List Int) (width:Int) (n:Nat) (W:World) (h:Jf6 W gb gk l)
  (iF:∀(A:Option Addr) (cap:Nat) (W:World),Qc W (byU l) l.length A cap->Calls Tryz.prog 59 #[.slice A l.length cap,.int .i64 width,.int .u64 n] W (Y8 W (l ++ bs))) :
  Calls Tryz.prog 58 #[.int .i64 width,.int .u64 n,.pointer (some ⟨gb,0,none⟩),.pointer (some ⟨gk,0,none⟩)] W (Jze W gb gk (l ++ bs)):=by
 obtain⟨⟨A,cap,b0,hc⟩,fz,ok,ne⟩:=h;have am:=block_lt_of_cell b0;have az:=fun W' hb=>iF A cap W' (hc.later hb);clear iF hc;generalize l ++ bs=l2 at *;unfold Y8 at az
 go_enter Tryz.func58,Tryz.ntmps58
 go_wp2_with (go_at_call 59;go_loud (refine(az _ Jb).mono ?_;rintro r w2 ⟨⟨v,rfl,ae⟩,aq⟩;obtain⟨A2,c2,rfl,aY⟩:=Qc.of_own ae;have b0':=Ja aq b0;have fz':=(Jf aq gb 0 am).trans fz;have ok':=Ja aq ok))
 go_end0
 refine⟨rfl,⟨⟨A2,c2,World.cell?_setCell_same _ _ _ b0',?_⟩,(World.frozen?_setCell ..).trans fz',(Qm _ _ _ _ _ _ (Ne.symm ne)).trans ok',ne⟩,(J6.bel (S:=fun k=>k=gb) aq).setCell rfl _ _⟩;exact Qc.own2 (Kn ae (fun b hb he=>by have:=(ae.lt b hb).1;omega) _ _)
theorem Jwn (gb gk:Nat) (l x:List Int) (A2:Option Addr) (cap2:Nat) (W:World) (h:Jf6 W gb gk l) (hx:Qc W (byU x) x.length A2 cap2) (hl:l.length<=100000) (hn:x.length<=65535) :
  Calls Tryz.prog 60 #[.slice A2 x.length cap2,.int .i64 0,.pointer (some ⟨gb,0,none⟩),.pointer (some ⟨gk,0,none⟩)] W (Jze W gb gk (l ++ Jcs x)):=by
 obtain⟨⟨A,cap,b0,hc⟩,fz,ok,ne⟩:=h;have am:=block_lt_of_cell b0;have az:=fun W' (hb:Below W.heap.size W W')=>Jq2 l x A cap A2 cap2 W' (hc.later hb) (hx.later hb) hl hn;clear hc hx;generalize l ++ Jcs x=l2 at *;unfold Y8 at az
 go_enter Tryz.func60,Tryz.ntmps60
 go_wp2_with (go_at_call 61;go_loud (refine(az _ Jb).mono ?_;rintro r w2 ⟨⟨v,rfl,ae⟩,aq⟩;obtain⟨A2,c2,rfl,aY⟩:=Qc.of_own ae;have b0':=Ja aq b0;have fz':=(Jf aq gb 0 am).trans fz;have ok':=Ja aq ok))
 go_end0
 refine⟨rfl,⟨⟨A2,c2,World.cell?_setCell_same _ _ _ b0',?_⟩,(World.frozen?_setCell ..).trans fz',(Qm _ _ _ _ _ _ (Ne.symm ne)).trans ok',ne⟩,(J6.bel (S:=fun k=>k=gb) aq).setCell rfl _ _⟩;exact Qc.own2 (Kn ae (fun b hb he=>by have:=(ae.lt b hb).1;omega) _ _)
end Go.Proofs.YtdgjplldlfeolaaGreatDoor
