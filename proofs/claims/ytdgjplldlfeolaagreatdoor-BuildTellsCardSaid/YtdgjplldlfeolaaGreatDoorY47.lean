/- Lemmas. -/
import Derived.Test.YtdgjplldlfeolaaGreatDoorMac
import Derived.Test.YtdgjplldlfeolaaGreatDoorY42
import Derived.Test.YtdgjplldlfeolaaGreatDoorY35
import Derived.Test.YtdgjplldlfeolaaGreatDoorY46
import Derived.RegionTactic
import Derived.Test.YtdgjplldlfeolaaGreatDoorY41
import Derived.Test.YtdgjplldlfeolaaGreatDoorY34
import Derived.Test.YtdgjplldlfeolaaGreatDoorY36
set_option linter.unusedVariables false
set_option linter.unusedSimpArgs false
set_option maxRecDepth 100000
set_option maxHeartbeats 64000000
namespace Go.Proofs.YtdgjplldlfeolaaGreatDoor
open Go.RowKit Go.Sort
def Ktn (m1 m2:Im) (W:World) (r:Ending) (W':World):Prop:=
 (∃(A:Option Addr) (n cap:Nat) (f1 f2 f3:Int),r = .returned (.tuple #[.slice A n cap,.agg #[.int .i64 f1,.int .i64 f2,.int .i64 f3]])/\(f3=0->f1=0/\f2=0/\m1.ver<m2.ver/\
  ∃c:List (Int×Int),n=c.length/\W'.ownsRow W.heap.size 122 2 (.slice A c.length cap) c.length (cdC c)/\c.length<=600/\∀i∈c,I32 i.2))/\Below W.heap.size W W'
def srP (p:Pr) (pa:PrA) (m:Im) (a:ImA):Value:=srV p.name pa.A1 p.ins.length pa.c1 pa.A2 p.outs.length pa.c2 pa.A3 p.locals.length pa.c3 pa.A4 p.eqs.length pa.c4 m a
theorem Krd (s:ByteArray) (p q:Pr) (a b:PrA) (m1 m2:Im) (i1 i2:ImA) (w:World) (hs:s.size<=maxLen) (hg:Ql w) (hp:Kr w p a) (hq:Kr w q b) (fp:J1 p) (fq:J1 q) :
  Calls Tryz.prog 28 #[.string s,srP p a m1 i1,srP q b m2 i2] w (Ktn m1 m2 w):=by
 have hparse:=fun W=>Krg s W hs
 have aZ:∀(W:World),Below w.heap.size w W->∀(l:List (ByteArray×Ex)) (A:Option Addr) (cap:Nat),Ko2 W l A cap->l.length<=5000->(∀x∈l,x.2.right=0/\x.2.OK/\x.1.size<=4096)->
   Calls Tryz.prog 55 #[.slice A l.length cap,prV p a,prV q b] W fun r W'=>(∃(A:Option Addr) (n cap:Nat) (f1 f2 f3:Int),r = .returned (.tuple #[.slice A n cap,.agg #[.int .i64 f1,.int .i64 f2,.int .i64 f3]])/\Hid (f3=0->f1=0/\f2=0/\
    ∃c:List (Int×Int),n=c.length/\W'.ownsRow W.heap.size 122 2 (.slice A c.length cap) c.length (cdC c)/\c.length<=600/\∀i∈c,I32 i.2))/\Below W.heap.size W W':=fun W hb l A cap h1 h2 h3=>
  (Krh l A cap p q a b W h1 h2 h3 (hg.later hb) (hp.later hb) (hq.later hb) fp fq).mono fun r W' iE=>by
   obtain⟨⟨f,h1,h2⟩|⟨v,c,h1,h2,h3,h4⟩,hb⟩:=iE
   ·exact⟨⟨none,0,0,f.1,f.2.1,f.2.2,h1,Nf fun h=>absurd h h2⟩,hb⟩
   ·obtain⟨A,cap,rfl,-,-⟩:=Jv h2;exact⟨⟨A,c.length,cap,0,0,0,h1,Nf fun _=>⟨rfl,rfl,c,rfl,h2,h3,h4⟩⟩,hb⟩
 obtain⟨A1,c1,A2,c2,A3,c3,A4,c4⟩:=a;obtain⟨B1,e1,B2,e2,B3,e3,B4,e4⟩:=b;unfold prV at aZ;unfold srP srV Ko9 at *;dsimp only at *;have HP:=Nf hparse;have HC:=Nf aZ;clear hparse aZ hg hp hq fp fq
 go_enter Tryz.func28,Tryz.ntmps28
 go_upto_region 2 with (go_at_call 54;go_loud (refine(HP.out _).mono ?_;rintro r w1 ⟨⟨l,A,cap,e,m,rfl,hl,hlok,hl5⟩,ac⟩;have af:=ac.size;(try simp at af)))
 have gS:=Nd w w1 (Jd (by exact Jb) ac);have hF1:w.heap.size+1+1<w1.heap.size:=Ua;have ax:=ltA w 1 w1;have hb00:=lt0 w w1;have p0:=Nb w1 w.heap.size 0 (.string p.name) (Ja ac Uc);have p1:=Nb w1 w.heap.size 1 (.slice A1 p.ins.length c1) (Ja ac Uc);have p2:=Nb w1 w.heap.size 2 (.slice A2 p.outs.length c2) (Ja ac Uc);have p3:=Nb w1 w.heap.size 3 (.slice A3 p.locals.length c3) (Ja ac Uc);have p4:=Nb w1 w.heap.size 4 (.slice A4 p.eqs.length c4) (Ja ac Uc);have p5:=Nb w1 w.heap.size 5 (.int .u32 m1.ver) (Ja ac Uc);have q0:=Nb w1 (w.heap.size+1) 0 (.string q.name) (Ja ac Uc);have q1:=Nb w1 (w.heap.size+1) 1 (.slice B1 q.ins.length e1) (Ja ac Uc);have q2:=Nb w1 (w.heap.size+1) 2 (.slice B2 q.outs.length e2) (Ja ac Uc);have q3:=Nb w1 (w.heap.size+1) 3 (.slice B3 q.locals.length e3) (Ja ac Uc);have q4:=Nb w1 (w.heap.size+1) 4 (.slice B4 q.eqs.length e4) (Ja ac Uc);have q5:=Nb w1 (w.heap.size+1) 5 (.int .u32 m2.ver) (Ja ac Uc);have z0:=Na w1 (w.heap.size+1+1) 0 0 (Ja ac Uc);have z1:=Na w1 (w.heap.size+1+1) 1 0 (Ja ac Uc);have z2:=Na w1 (w.heap.size+1+1) 2 0 (Ja ac Uc);have zf:∀o,w1.frozen? ⟨w.heap.size+1+1,o,none⟩=false:=fun o=>(Jf ac _ _ Uh).trans Uc;have HL:=Nf hl;have HLO:=Nf hlok;have HB:=Nf gS;clear ac af hl hlok gS
 by_cases he:e=0
 ·subst he;have jK:=HC.out w1 HB.out l A cap HL.out hl5 HLO.out;have HCD:=Nf jK;clear jK
  go_upto_region 5 with (go_at_call 55;go_loud (refine HCD.out.mono ?_;rintro r w2 ⟨⟨A6,n6,k6,f1,f2,f3,rfl,iE⟩,aq⟩;have br:=aq.size))
  refine Jo fun V hV=>?_;have fk:=Nd w2 V S9;have hb1V:=Jd aq fk;have g0:=Na V w2.heap.size 0 f1 Uj;have g1:=Na V w2.heap.size 1 f2 Uj;have g2:=Na V w2.heap.size 2 f3 Uj;have mQ:w2.heap.size<V.heap.size:=Mj;replace p5:=Ja hb1V p5;replace q5:=Ja hb1V q5;replace z0:=Ja hb1V z0;replace z1:=Ja hb1V z1;replace z2:=Ja hb1V z2;have yf:∀o,V.frozen? ⟨w.heap.size+1+1,o,none⟩=false:=fun o=>(Jf hb1V _ _ hF1).trans (zf o);have bV:w.heap.size+1+1<V.heap.size:=Ua;have gq:=ltA w 1 V;have ow:=lt0 w V;have bK:=Jd HB.out hb1V;have HBV:=Nf bK;have HBX:=Nf fk;clear hV fk hb1V bK aq HCD HC HP p0 p1 p2 p3 p4 q0 q1 q2 q3 q4 zf
  by_cases hf:f3=0
  ·obtain⟨rfl,rfl,c,rfl,ae,h6,hi⟩:=iE.out hf;subst hf;have qa:=Jy ae HBX.out;have HOWN:=Nf qa;have HI:=Nf hi;clear qa ae hi iE
   by_cases hv:m1.ver<m2.ver
   ·have qK:¬(m2.ver<=m1.ver):=Ua;have uM:decide (m2.ver<=m1.ver)=false:=Ui
    go_upto_region 7 with (fail)
    go_region
    all_goals
     go_wp2_with fail
     refine Nv (v:= .tuple #[.slice A6 c.length k6,.agg #[.int .i64 0,.int .i64 0,.int .i64 0]]) Fm rfl ⟨⟨A6,c.length,k6,0,0,0,rfl,fun _=>⟨rfl,rfl,hv,c,rfl,K8 (Jbd (Jbd (Jbd (Jy HOWN.out (Jh (Nt))) hF1 _ _) hF1 _ _) hF1 _ _) Ua,h6,HI.out⟩⟩,Qq _ _ _ (Jh HBV.out) Ua⟩
   ·have qK:m2.ver<=m1.ver:=Ua;have uM:decide (m2.ver<=m1.ver)=true:=Ui
    go_wp2_with fail
    refine Nv (v:= .tuple #[.slice none 0 0,.agg #[.int .i64 4,.int .i64 0,.int .i64 24]]) Fm rfl ⟨⟨none,0,0,4,0,24,rfl,fun h=>absurd h Ug⟩,Qq _ _ _ HBV.out Ua⟩
  ·have hfi:(f3 == 0)=false:=S5;clear iE
   go_upto_region 7 with (fail)
   go_region
   all_goals
    go_wp2_with fail
    refine Nv (v:= .tuple #[.slice A6 n6 k6,.agg #[.int .i64 f1,.int .i64 f2,.int .i64 f3]]) Fm rfl ⟨⟨A6,n6,k6,f1,f2,f3,rfl,fun h=>absurd h hf⟩,Qq _ _ _ (Jh HBV.out) Ua⟩
 ·have hei:(e != 0)=true:=F8;clear HC HP
  go_wp2_with fail
  refine Nv (v:= .tuple #[.slice none 0 0,.agg #[.int .i64 1,.int .i64 m,.int .i64 e]]) Fm rfl ⟨⟨none,0,0,1,m,e,rfl,fun h=>absurd h he⟩,Qq _ _ _ HB.out Ua⟩
def RdU (W:World) (v:Int) (r:Ending) (W':World):Prop:=
 (∃nm B1 l1 d1 B2 l2 d2 B3 l3 d3 B4 l4 d4 m ia k1 k2 k3,r = .returned (.tuple #[srV nm B1 l1 d1 B2 l2 d2 B3 l3 d3 B4 l4 d4 m ia,.agg #[.int .i64 k1,.int .i64 k2,.int .i64 k3]])/\
  Hid (k3=0->k1=0/\k2=0/\∃p:Pr,nm=p.name/\l1=p.ins.length/\l2=p.outs.length/\l3=p.locals.length/\l4=p.eqs.length/\J1 p/\Jsj m/\m.ver=v/\Jd5 W' m ia/\Kr W' p ⟨B1,d1,B2,d2,B3,d3,B4,d4⟩))/\Below W.heap.size W W'
theorem Kqt (s:ByteArray) (v:Int) (W:World) (hs:s.size<=maxLen) (hg:Ql W) (hv:0<=v/\v<4294967296):Calls Tryz.prog 15 #[.string s,.int .u32 v] W (RdU W v):=by
 by_cases hf:(Kdm s).2.1=0
 ·refine(Krm s v W hs hg hv hf).mono ?_;rintro r W' ⟨⟨pa,ia,rfl,him,hpr⟩,hb⟩;refine⟨⟨_,_,_,_,_,_,_,_,_,_,_,_,_,_,ia,_,_,_,rfl,Nf fun h=>?_⟩,hb⟩;obtain⟨aw,n1,n2,n3,n4⟩:=Kje s;obtain⟨h1,h2,h3⟩:=Ks3 h;rw [h3] at him ⊢;refine⟨rfl,rfl,(Kdm s).1,rfl,rfl,rfl,rfl,rfl,⟨aw,n1,n2,n3,n4,h1,h2⟩,⟨hv,by unfold Jd8;dsimp only;omega,Jt7 aw,Jvr (Jff h1) aw h2,fun i hi=>by cases hi⟩,rfl,him,hpr⟩
 ·refine(Kko s v W hs hf).mono ?_;rintro r W' ⟨⟨nm,B1,l1,d1,B2,l2,d2,B3,l3,d3,B4,l4,d4,ia,rfl,him⟩,hb⟩;exact⟨⟨nm,B1,l1,d1,B2,l2,d2,B3,l3,d3,B4,l4,d4,_,ia,_,_,_,rfl,Nf fun h=>absurd h hf⟩,hb⟩
theorem Kpr {fn:Func} {p q r:Tmp} {t u:TypeId} {tmps:Array Value} {P:Program} {w:World} {b c:Nat} (h:fn.results = #[.cell p t,.tmp q,.cell r u]) (l m:List Value)
  (hp:tmps.getD p undef = .pointer (some ⟨b,0,none⟩)) (hr:tmps.getD r undef = .pointer (some ⟨c,0,none⟩)) {v:Value} (hq:tmps.getD q undef=v) (ha:(isAgg t).run P w = .ok true w) (hs:(sizeOf t).run P w = .ok l.length w) (ha2:(isAgg u).run P w = .ok true w) (bd:(sizeOf u).run P w = .ok m.length w)
  (hc:∀(j:Nat) (v:Value),l[j]?=some v->w.cell? ⟨b,j,none⟩=some v) (dm:∀(j:Nat) (v:Value),m[j]?=some v->w.cell? ⟨c,j,none⟩=some v) :
  (results fn tmps).run P w = .ok (.tuple #[.agg l.toArray,v,.agg m.toArray]) w:=by
 have h1:=Kon l ha hs hc;have h2:=Kon m ha2 bd dm;have hp':tmps[p]?.getD undef = .pointer (some ⟨b,0,none⟩):=by simpa using hp
 have hr':tmps[r]?.getD undef = .pointer (some ⟨c,0,none⟩):=Fp;have tt:tmps[q]?.getD undef=v:=by simpa using hq
 simp only [results,h];simp [Sem.run_bind,Result.andThen,hp',tt,hr',asAddr,h1,h2,Sem.run_pure]
def imL (m:Im) (a:ImA):List Value:=[.int .u32 m.ver,.int .u32 m.fro,.int .i64 m.eld,.int .i64 m.fr.s,.int .i64 m.fr.o,.int .i64 m.fr.n,.int .i64 m.fr.i,.int .i64 m.fr.u,.slice a.A1 m.first.length a.c1,.slice a.A2 m.step.length a.c2,.slice a.A3 m.move.length a.c3,.int .i64 m.sf,.int .i64 m.mf]
def ftL (f1 f2 f3:Int):List Value:=[.int .i64 f1,.int .i64 f2,.int .i64 f3]
def Kpa:List Value:=[.int .u32 0,.int .u32 0,.int .i64 0,.int .i64 0,.int .i64 0,.int .i64 0,.int .i64 0,.int .i64 0,.slice none 0 0,.slice none 0 0,.slice none 0 0,.int .i64 0,.int .i64 0]
def Ko0 (W:World):World:=(W.alloc (.cells Kpa.toArray 29)).alloc (.cells (ftL 0 0 0).toArray 32)
theorem Kpi (W:World):(Ko0 W).heap.size=W.heap.size+2:=by simp [Ko0]
theorem Kp3 (W:World):Below W.heap.size W (Ko0 W):=Jc (Jc (Nt) _) _
def Kpk (V:World) (n:Nat) (m:Im) (ia:ImA) (f1 f2 f3:Int):World:=Koi (Koi V n 0 (imL m ia)) (n+1) 0 (ftL f1 f2 f3)
theorem Ks1 {W V F:World} {m:Im} {ia:ImA} {f1 f2 f3:Int} (ax:Below (Ko0 W).heap.size (Ko0 W) V) (him:Jd5 V m ia) (hF:F=Kpk V W.heap.size m ia f1 f2 f3\/F=(Kpk V W.heap.size m ia f1 f2 f3).drew) :
  (∀(j:Nat) (u:Value),(imL m ia)[j]?=some u->F.cell? ⟨W.heap.size,j,none⟩=some u)/\(∀(j:Nat) (u:Value),(ftL f1 f2 f3)[j]?=some u->F.cell? ⟨W.heap.size+1,j,none⟩=some u)/\Below W.heap.size W F/\Jd5 F m ia:=by
 have oG:=Kqh W V Kpa (ftL 0 0 0) 29 32 (by simp [Kpa]) (by simp [ftL]) ax;have dZ:=Nd W V (Jd (Kp3 W) ax);have aS:W.heap.size≠W.heap.size+1:=Ua;have bI:(imL m ia).length=Kpa.length:=rfl;have aD:(ftL f1 f2 f3).length=(ftL 0 0 0).length:=rfl
 have hZ:∀i,i<(imL m ia).length->∃u,V.cell? ⟨W.heap.size,0+i,none⟩=some u:=fun i hi=>
  ⟨Kpa[i]'(by rw [<-bI];exact hi),by rw [Nat.zero_add];exact Ja ax (J4 ((Kw W _ _ i).trans Fa))⟩
 have hY:∀i,i<(ftL f1 f2 f3).length->∃u,V.cell? ⟨W.heap.size+1,i,none⟩=some u:=fun i hi=>
  ⟨(ftL 0 0 0)[i]'(by rw [<-aD];exact hi),Ja ax ((Kmc _ _ _ Uh i).trans Fa)⟩
 have cX:∀(j:Nat) (u:Value),(imL m ia)[j]?=some u->(Koi V W.heap.size 0 (imL m ia)).cell? ⟨W.heap.size,j,none⟩=some u:=fun j u hj=>by
  have h1:=Kom (z:=W.heap.size) (imL m ia) 0 V hZ j u hj
  rwa [Nat.zero_add] at h1
 have bX:∀b,b≠W.heap.size->(Koi V W.heap.size 0 (imL m ia)).heap[b]?=V.heap[b]?:=fun b hb=>Koj hb _ _ _
 have cY:∀(j:Nat) (u:Value),(ftL f1 f2 f3)[j]?=some u->(Kpk V W.heap.size m ia f1 f2 f3).cell? ⟨W.heap.size+1,j,none⟩=some u:=fun j u hj=>by
  have h1:=Kom (z:=W.heap.size+1) (ftL f1 f2 f3) 0 (Koi V W.heap.size 0 (imL m ia)) (fun i hi=>by
   rw [Nat.zero_add];obtain⟨x,hx⟩:=hY i hi;exact⟨x,Jr (a:=⟨W.heap.size+1,i,none⟩) (bX _ (Ne.symm aS)) hx⟩) j u hj
  rwa [Nat.zero_add] at h1
 have bY:∀b,b≠W.heap.size+1->(Kpk V W.heap.size m ia f1 f2 f3).heap[b]?=(Koi V W.heap.size 0 (imL m ia)).heap[b]?:=fun b hb=>Koj hb _ _ _;have hbF:Below W.heap.size W (Kpk V W.heap.size m ia f1 f2 f3):=Kok (Nat.le_succ _) _ _ _ (Kok (Ns _) _ _ _ dZ);have himF:Jd5 (Kpk V W.heap.size m ia f1 f2 f3) m ia:=him.aside fun b o k hk=>(bY b (fun he=>oG.2 o k (he ▸ hk))).trans (bX b (fun he=>oG.1 o k (he ▸ hk)));have hcI:∀(j:Nat) (u:Value),(imL m ia)[j]?=some u->(Kpk V W.heap.size m ia f1 f2 f3).cell? ⟨W.heap.size,j,none⟩=some u:=fun j u hj=>Jr (a:=⟨W.heap.size,j,none⟩) (bY _ aS) (cX j u hj)
 rcases hF with rfl|rfl
 ·exact⟨hcI,cY,hbF,himF⟩
 ·exact⟨fun j u hj=>(Xi _ _).trans (hcI j u hj),fun j u hj=>(Xi _ _).trans (cY j u hj),Jh hbF,himF.later (Jh (Nt))⟩
theorem Ks5 {w2 V:World} {q:Pr} {qa:PrA} {m:Im} {ia:ImA} {g base:Nat} (hn:Khq w2 g) (hs:Kpf w2 g) (hb:w2.heap.size<=base) (hk:Aft g base w2 V) (hm:Jd5 w2 m ia) (hq:Kr w2 q qa):Jd5 V m ia/\Kr V q qa:=by
 have key:∀b o v,w2.cell? ⟨b,o,none⟩=some v->b≠g->V.heap[b]?=w2.heap[b]?:=fun b o v hc aS=>by
  have am:b<w2.heap.size:=Nu hc;exact hk.block b am (by show ¬(b=g\/base<=b);rintro(h|h) <;> omega)
 have h1:∀b o k,w2.cell? ⟨b,o,none⟩=some (Value.int .i32 k)->V.heap[b]?=w2.heap[b]?:=fun b o k hc=>key b o _ hc fun he=>hn o k (he ▸ hc);exact⟨hm.aside h1,hq.past h1 fun b o s k hc hc'=>key b o _ hc fun he=>hs o s k (he ▸ hc) (he ▸ hc')⟩
def UpR (fro ver:Int) (W:World) (r:Ending) (W':World):Prop:=
 (∃(m:Im) (ia:ImA) (k f1 f2 f3:Int),r = .returned (.tuple #[imV m ia,.int .i64 k,.agg #[.int .i64 f1,.int .i64 f2,.int .i64 f3]])/\Jd5 W' m ia/\
  ((f3≠0/\1<=k/\k<=3/\m=Im.zero/\ia=⟨none,0,none,0,none,0⟩)\/(f1=0/\f2=0/\f3=0/\k=0/\Jsj m/\m.wrong=0/\¬2016<(Jba m).length/\m.fro=fro/\m.ver=ver/\fro<ver)))/\Below W.heap.size W W'
theorem UpR.fault {fro ver k f1 f2 f3:Int} {W V F:World} (ax:Below (Ko0 W).heap.size (Ko0 W) V) (hF:F=Kpk V W.heap.size Im.zero ⟨none,0,none,0,none,0⟩ f1 f2 f3\/F=(Kpk V W.heap.size Im.zero ⟨none,0,none,0,none,0⟩ f1 f2 f3).drew) (h3:f3≠0) (hk:1<=k/\k<=3) :
  (∀(j:Nat) (u:Value),(imL Im.zero ⟨none,0,none,0,none,0⟩)[j]?=some u->F.cell? ⟨W.heap.size,j,none⟩=some u)/\(∀(j:Nat) (u:Value),(ftL f1 f2 f3)[j]?=some u->F.cell? ⟨W.heap.size+1,j,none⟩=some u)/\UpR fro ver W (.returned (.tuple #[.agg (imL Im.zero ⟨none,0,none,0,none,0⟩).toArray,.int .i64 k,.agg (ftL f1 f2 f3).toArray])) F:=by
 obtain⟨h1,h2,h4,h5⟩:=Ks1 ax (Klf V) hF;exact⟨h1,h2,⟨Im.zero,⟨none,0,none,0,none,0⟩,k,f1,f2,f3,rfl,h5,.inl ⟨h3,hk.1,hk.2,rfl,rfl⟩⟩,h4⟩
end Go.Proofs.YtdgjplldlfeolaaGreatDoor
