/- Lemmas. -/
import Derived.Test.YtdgjplldlfeolaaGreatDoorMac
import Derived.Test.YtdgjplldlfeolaaGreatDoorY27
import Derived.Test.YtdgjplldlfeolaaGreatDoorY26
import Derived.Test.YtdgjplldlfeolaaGreatDoorY09
import Derived.Test.YtdgjplldlfeolaaGreatDoorY13
import Derived.Test.YtdgjplldlfeolaaGreatDoorY17
import Derived.Test.YtdgjplldlfeolaaGreatDoorY12
import Derived.Laws.BitsAllLaws
import Derived.Laws.Bits64b
import Derived.Test.YtdgjplldlfeolaaGreatDoorY10
import Derived.Laws.OwnMore
import Derived.Test.YtdgjplldlfeolaaGreatDoorY08
import Derived.Test.YtdgjplldlfeolaaGreatDoorY00
import Derived.Test.YtdgjplldlfeolaaGreatDoorRows
import Derived.Test.YtdgjplldlfeolaaGreatDoorY02
import Derived.Test.YtdgjplldlfeolaaGreatDoorY23
set_option linter.unusedVariables false
set_option linter.unusedSimpArgs false
set_option maxRecDepth 100000
set_option maxHeartbeats 64000000
namespace Go.Proofs.YtdgjplldlfeolaaGreatDoor
open Go.RowKit Go.Sort Go.Maps Go.ChangeMaps Go.WideMaps
theorem Jua:(Tryz.prog.info? 212).map (fun i=>(i.zero,i.size,i.bytes))=some (some (.agg #[.string ⟨#[]⟩,.int .i64 0,.string ⟨#[]⟩,.int .i32 0]),4,48):=Ue
theorem Jdy (l:List Ce) (c:Ce):X7 (l ++ [c])=X7 l ++ [.string c.name,.int .i64 c.ck,.string c.cn,.int .i32 c.first]:=by unfold X7;simp
theorem Jx1 {P:Program} {k e:TypeId} {q:IntKind} {K:Type} {ok:K->Prop} {kv:K->Value} {kl:K->Lit} {w:World} (ks:Jer P k ok kv kl) {t:TypeId}
  (ht:P.underlying t=some (.map k e)) (he:P.underlying e=some (.int q))
  {b n:Nat} {f:K->Option Int} {c:Nat} {s:K} {i:Int} {x:Value} (hx:x=kv s) (ae:Q3 P k e q ok kl w b n f c) (hn:n<1000000000)
  (hs:ok s) (hi:(Lit.int q i).wf=true) (f':K->Option Int) (db:f' s=some i) (gO:∀y,ok y->y≠s->f' y=f y) :
  ∃w',(Instr.mapUpdate t (.map (some b)) x (.int q i)).run P w = .ok () w'/\Q3 P k e q ok kl w' b (n+1) f' (if (f s).isSome then c else c+1)/\w.grownBy w' (some b):=by
 subst hx;obtain⟨D,h1,h2,hc,h3⟩:=ae;have fR:WideAt.IsKeyLit (kl s):=ks.keyed.key (ks.read s hs);obtain⟨w',eH,h4,h5⟩:=h1.update ks.keyed ht Uo (ks.read s hs) (plainElem_int he hi)
 exact⟨w',eH,⟨_,h4,h2.put fR _,by rw [Maps.size_put h2,(h3 s hs).1,hc],fun y hy=>by
  by_cases oJ:y=s
  ·subst oJ;rw [has_put_same h2.isMap fR,atKey_put_same h2.isMap fR,db];exact Uh
  ·have aS:kl y≠kl s:=fun h=>oJ (ks.inj y s hy hs h);rw [has_put_other aS,atKey_put_other aS,(h3 y hy).1,(h3 y hy).2,gO y hy oJ];exact⟨rfl,rfl⟩⟩,h5⟩
structure Jd1 (W:World) (M F X bm bx base:Nat) (L:List (Int×ByteArray)) (cs:List Ce) (n:Nat) (v:Value):Prop where
 m:W.cell? ⟨bm,0,none⟩=some (.map (some M))
 x:W.cell? ⟨bx,0,none⟩=some (.pointer (some ⟨X,0,none⟩))
 x6:W.cell? ⟨X,6,none⟩=some v
 x7:W.cell? ⟨X,7,none⟩=some (.map (some F))
 met:∃n f c,Q3 Tryz.prog 81 3 .i64 okC klC W M n f c/\Jdf f L
 flg:∃f c,Q3 Tryz.prog 81 3 .i64 okC klC W F n f c
 own:W.ownsRow base 212 4 v cs.length (X7 cs)
 fz:W.frozen? ⟨X,6,none⟩=false
def Jxp (F X:Nat) (v:Value) (k:Nat):Prop:=k=F\/k=X\/some k=v.ownBlock
theorem Jhd (M F X bm bx base:Nat) (hM:M<base) (hF:F<base) (hX:X<base) (iQ:bm<base) (fk:bx<base) (n1:F≠X) (n2:F≠M) (n3:F≠bm) (n4:F≠bx) (n5:X≠M) (n6:X≠bm) (n7:X≠bx)
  (L:List (Int×ByteArray)) (ck:Int) (cs:ByteArray) (csl:List Ce) (n:Nat) (v:Value) (W:World) (hB:base<=W.heap.size) (st:Jd1 W M F X bm bx base L csl n v) (hc:okC (ck,cs)) (hn:n<=1000000) (hl:csl.length<=1000000) :
  Calls Tryz.prog 131 #[.agg #[.int .i64 ck,.string cs],.pointer (some ⟨bm,0,none⟩),.pointer (some ⟨bx,0,none⟩)] W fun r w'=>r = .returned (.tuple #[])/\(∃v',Jd1 w' M F X bm bx base L (if inC L (ck,cs)=true then csl ++ [Jb6 (ck,cs)] else csl) (n+1) v'/\(v'.ownBlock=v.ownBlock\/∀k,v'.ownBlock=some k->W.heap.size<=k))/\J6 (Jxp F X v) W w':=by
 obtain⟨m0,x0,x6,x7,⟨nM,f,c,fL,hM2⟩,⟨f2,c2,uP⟩,ae,eh⟩:=st;obtain⟨Av,cv,rfl,zD,nL⟩:=Jv ae;unfold maxLen at nL;have dV:=hM2 (ck,cs) hc;have z1:bm<W.heap.size:=Ua;have z2:bx<W.heap.size:=Ua;have z3:X<W.heap.size:=Ua;have z4:M<W.heap.size:=Ua;have z5:F<W.heap.size:=Ua;have hlk:=Jcb (w:=W.alloc (.cells #[.int .i64 ck,.string cs] 81)) Jl0 (x:= .agg #[.int .i64 ck,.string cs]) Tryz.underlying227 Tryz.underlying3 (Jxy _) rfl (fL.bel Jb) hc rfl;have wL:=Nf uP;have HME:=Nf fL;have kj:=Nf hM2;generalize (f (ck,cs)).getD 0=r at dV hlk
 cases hb:inC L (ck,cs)
 ·have tr:¬(0:Int)<r:=by rw [hb] at dV;simpa using dV
  clear dV uP fL hM2 hb
  go_enter Tryz.func131,Tryz.ntmps131
  go_wp2_with fail
  go_end0
  have ab:Below W.heap.size W (W.alloc (.cells #[.int .i64 ck,.string cs] 81)):=Jb;exact⟨rfl,⟨_,⟨Ja ab m0,Ja ab x0,Ja ab x6,Ja ab x7,⟨nM,f,c,HME.out.bel ab,kj.out⟩,⟨f2,c2,(wL.out.bel ab).more Ua⟩,Jy ae ab,(Jf ab X 6 (Nu x6)).trans eh⟩,.inl rfl⟩,J6.bel ab⟩
 ·have tr:(0:Int)<r:=by rw [hb] at dV;simpa using dV
  clear dV uP fL hM2 hb;have hc64:(Lit.int .i64 (csl.length:Int)).wf=true:=Jok Vy;have uQ:=Jua
  go_enter Tryz.func131,Tryz.ntmps131
  go_wp2_with fail
  have zF:Q3 Tryz.prog 81 3 .i64 okC klC (W.alloc (.cells #[.int .i64 ck,.string cs] 81)).drew F n f2 c2:=wL.out.bel Jb;obtain⟨w2,cP,cI,aG⟩:=Jx1 Jl0 (x:= .agg #[.int .i64 ck,.string cs]) Tryz.underlying227 Tryz.underlying3 rfl zF Ua hc hc64 (Jkb f2 (ck,cs) csl.length) (Jmm _ _ _) (fun y _ hy=>Jkt _ _ _ y hy);have nT:J6 (fun k=>k=F) W w2:=(J6.bel (S:=fun k=>k=F) (Jh (Jc (Nt) _))).trans' (J6.grown aG fun k hk=>Df);have dH:=aG.size;simp at dH;have b0:=nT.cell (fun h=>n4 h.symm) x0;have b6:=nT.cell (fun h=>n1 h.symm) x6;have b7:=nT.cell (fun h=>n1 h.symm) x7;have bm0:=nT.cell (fun h=>n3 h.symm) m0;have bf:=Nc w2 X 6 ((World.frozen?_of_block (a:=⟨X,6,none⟩) (nT.block X z3 (fun h=>n1 h.symm))).trans eh);have jv:∀o u,(W.alloc (.cells #[.int .i64 ck,.string cs] 81)).drew.cell? ⟨W.heap.size,o,none⟩=some u->w2.cell? ⟨W.heap.size,o,none⟩=some u:=fun o u hu=>Jr (aG.block W.heap.size Uh U2) hu;have e0:=jv 0 (.int .i64 ck) Uc;have e1:=jv 1 (.string cs) Uc;have ao:=nT.own (fun b hb he=>Da) ae;have HM2':=Nf cI;have HKF:=Nf nT;have aq:base<=w2.heap.size:=Ua;have br:=lt0 W w2;have y2:bx<w2.heap.size:=Ua;have y3:X<w2.heap.size:=Ua;have HM:=Nf cI;have HKF:=Nf nT;clear zF cI nT aG jv
  go_region
  clear cP hlk
  go_wp2_with fail
  obtain⟨S,hSd⟩:∃S:World->Prop,S=fun w'=>w'.cell? ⟨bx,0,none⟩=some (.pointer (some ⟨X,0,none⟩))/\w'.cell? ⟨X,6,none⟩=some (.slice Av csl.length cv)/\w'.cell? ⟨W.heap.size,0,none⟩=some (.int .i64 ck)/\w'.cell? ⟨W.heap.size,1,none⟩=some (.string cs):=⟨_,rfl⟩;have ar:S w2.drew:=by rw [hSd];exact⟨b0,b6,e0,e1⟩
  refine Kd S 9 3 Ue Gp ?_;simp only [List.size_toArray,Nl,Nm,Nat.zero_add,Nat.reduceAdd];rw [hSd] at ar;rw [hSd];clear hSd;refine Ji 0 ar ?_;refine Ji 1 ar ?_;refine Ji 2 ar ?_;refine Ji 3 ar ?_;refine Ji 4 ar ?_;refine Ji 5 ar ?_;refine Ji 6 ar ?_;refine Kb 7 ?_;refine Jj fun K hK=>?_;go_simp;have dr:∀u,(w2.alloc u).drew.cell? ⟨bx,0,none⟩=some (.pointer (some ⟨X,0,none⟩))/\(w2.alloc u).drew.cell? ⟨X,6,none⟩=some (.slice Av csl.length cv)/\(w2.alloc u).drew.cell? ⟨W.heap.size,0,none⟩=some (.int .i64 ck)/\(w2.alloc u).drew.cell? ⟨W.heap.size,1,none⟩=some (.string cs):=fun u=>⟨J4 b0,J4 b6,J4 e0,J4 e1⟩;refine hK _ _ ⟨dr _,?_⟩;clear hK K;refine Kb 8 ?_;refine Ji5 (.tmp 22) (.tmp 25) 178 rfl base 212 _ 4 48 Tryz.underlying178 uQ rfl Ua (.slice Av csl.length cv) csl.length (X7 csl) w2.heap.size 1 1 [.string ⟨#[]⟩,.int .i64 ck,.string cs,.int .i32 0] rfl (Kp (Js ao)) rfl rfl (fun j u hj=>by refine(Qo (w:=w2) (c:=#[.string ⟨#[]⟩,.int .i64 ck,.string cs,.int .i32 0]) (t:=212) rfl).trans ?_;simpa using hj) Vg Ua Ua Ui ?_;intro v3 w3 aE bJ iM;obtain⟨A3,c3,rfl,hc31,hc32⟩:=Jv aE;have uR:some X≠(Value.slice Av csl.length cv).ownBlock:=fun he=>by have:=(ae.lt X he.symm).1;omega
  have hne4:some bx≠(Value.slice Av csl.length cv).ownBlock:=fun he=>by have:=(ae.lt bx he.symm).1;omega
  have zG:some W.heap.size≠(Value.slice Av csl.length cv).ownBlock:=fun he=>by have:=(ae.lt W.heap.size he.symm).2;omega
  have k0:=Nb w3 bx 0 (.pointer (some ⟨X,0,none⟩)) (Jr (bJ.block bx Ui hne4) (dr _).1);have k6:=Nb w3 X 6 (.slice Av csl.length cv) (Jr (bJ.block X Ui uR) (dr _).2.1);have kf:=Nc w3 X 6 ((World.frozen?_of_block (a:=⟨X,6,none⟩) (bJ.block X Ui uR)).trans ((Jf (Jh (Jc (Nt) _)) X 6 Ua).trans bf));refine⟨⟨k0,k6,Jr (bJ.block W.heap.size Ui zG) (dr _).2.2.1,Jr (bJ.block W.heap.size Ui zG) (dr _).2.2.2⟩,Kh Ue ?_⟩
  try simp only [Act.put,sa1,sa2,sa3]
  refine Qx 9 ?_;refine Jj fun K hK=>?_;go_simp;refine hK _ _ ?_;clear hK K
  try simp only [Act.put,sa1,sa2,sa3]
  refine Qx 10 ?_;refine Jj fun K hK=>?_;go_simp;refine hK _ _ ?_;clear hK K
  try simp only [Act.put,sa1,sa2,sa3]
  refine Qx 11 ?_;refine Jj fun K hK=>?_;go_simp;refine hK _ _ ?_;clear hK K
  try simp only [Act.put,sa1,sa2,sa3]
  have lw:∀j,some j=(Value.slice Av csl.length cv).ownBlock->base<=j:=fun j h=>(ae.lt j h.symm).1
  have zH:J6 (fun k=>k=X\/some k=(Value.slice Av csl.length cv).ownBlock) w2 (w3.setCell ⟨X,6,none⟩ (.slice A3 (csl.length+1) c3)):=
   ((J6.bel (S:=fun k=>k=X\/some k=(Value.slice Av csl.length cv).ownBlock) (Jh (Jc (Below.refl w2.heap.size w2) _))).trans' (J6.grown bJ fun k hk=> .inr hk.symm)).setCell (.inl rfl) _ _
  have wd:J6 (Jxp F X (.slice Av csl.length cv)) W (w3.setCell ⟨X,6,none⟩ (.slice A3 (csl.length+1) c3)):=
   (HKF.out.less fun k _ hk=> .inl hk).trans zH fun k _ hk=>by
    rcases hk with hk|hk
    ·exact .inr (.inl hk)
    ·exact .inr (.inr hk)
  have iE:Jd1 (w3.setCell ⟨X,6,none⟩ (.slice A3 (csl.length+1) c3)) M F X bm bx base L (csl ++ [Jb6 (ck,cs)]) (n+1) (.slice A3 (csl.length+1) c3):=by
   refine⟨zH.cell (fun h=>Uce) bm0,zH.cell (fun h=>Uce) b0,Nx _ _ _ k6,?_,?_,?_,?_,?_⟩
   ·exact(World.cell?_setCell_other _ _ _ _ (by intro he;injection he with e1 e2;exact absurd e2 Ug)).trans (Jr (bJ.block X Ui uR) (Zw (J4 b7)))
   ·exact⟨nM,f,c,HME.out.keep1 (wd.block M z4 (fun h=>by rcases h with h|h|h;exact absurd h Ua;exact absurd h Ua;have:=lw _ h;omega)),kj.out⟩
   ·exact⟨_,_,HM.out.keep1 (zH.block F Ua (fun h=>Uce))⟩
   ·rw [Jdy,Nk];exact Kn aE (fun b hb he=>by have:=(aE.lt b hb).1;omega) _ _
   ·rw [World.frozen?_setCell];exact kf
  have zI:(Value.slice A3 (csl.length+1) c3).ownBlock=(Value.slice Av csl.length cv).ownBlock\/∀k,(Value.slice A3 (csl.length+1) c3).ownBlock=some k->W.heap.size<=k:=iM.imp id (fun h k hk=>by have:=h k hk;simp at this;omega);have pY:=Nf iE;have HK1:=Nf wd;have HV3:=Nf zI;clear wd zH iE zI;refine Ki Ue ?_
  go_wp2_with fail
  go_end0
  exact⟨rfl,⟨_,pY.out,HV3.out⟩,HK1.out⟩
theorem Jd1.later {W W':World} {M F X bm bx base:Nat} {L:List (Int×ByteArray)} {cs:List Ce} {n:Nat} {v:Value} (h:Jd1 W M F X bm bx base L cs n v) (hb:Below W.heap.size W W'):Jd1 W' M F X bm bx base L cs n v:=by
 obtain⟨m0,x0,x6,x7,⟨a,b,c,hm,hM⟩,⟨d,e,hf⟩,ae,eh⟩:=h;exact⟨Ja hb m0,Ja hb x0,Ja hb x6,Ja hb x7,⟨a,b,c,hm.bel hb,hM⟩,⟨d,e,hf.bel hb⟩,Jy ae hb,(Jf hb X 6 (Nu x6)).trans eh⟩
theorem Jc1 (m:List (Int×ByteArray)) (l:List (Int×ByteArray)) (c:Int×ByteArray):Kaq m (l ++ [c])=if inC m c=true then Kaq m l ++ [Jb6 c] else Kaq m l:=by
 unfold Kaq;rw [List.filter_append,List.map_append,List.filter_cons]
 cases h:inC m c <;> simp
theorem Jnf {L:List Va} {k:Nat} {x:Va} (h:L[k]?=some x):X3 (L.take (k+1))=X3 (L.take k) ++ [(1,x.name)] ++ [(2,x.name)]:=by
 obtain⟨am,hx⟩:=Nh h;have e:L.take (k+1)=L.take k ++ [x]:=by rw [List.take_succ_eq_append_getElem am,hx]
 rw [e];unfold X3;exact Uh
end Go.Proofs.YtdgjplldlfeolaaGreatDoor
namespace Go.Proofs.YtdgjplldlfeolaaGreatDoor
open Go.RowKit
def Kfk (s:ByteArray) (v:Int):Im×(Int×Int×Int):=
 if (Kdm s).2.1≠0 then(Im.zero,(1,(Kdm s).2.2,(Kdm s).2.1)) else imE (Kdm s).1 v
def Kor (l:List Int) (k w:Nat):List Int:=(l.drop k).take w
theorem Koq {x y:List Int} {j:Nat} (h:x.length=j) (k:Nat):(x ++ y).drop (j+k)=y.drop k:=by
 subst h;rw [<-List.drop_drop,List.drop_left]
theorem Koy {x y:List Int} {j:Nat} (h:x.length=j):(x ++ y).take j=x:=by
 subst h;rw [List.take_left]
theorem Kox (m:Im):Jba m = [77,73,68,83] ++ (leB 4 m.ver.toNat ++ (leB 4 m.fro.toNat ++ (leB 1 m.eld.toNat ++ (leB 1 m.fr.s.toNat ++ (leB 1 m.fr.n.toNat ++ (leB 1 m.fr.i.toNat ++ (leB 1 m.fr.u.toNat ++ (leB 2 m.sf.toNat ++ (leB 2 m.mf.toNat ++ (leB 2 (Je9 m.first).length ++ (Je9 m.first ++ (leB 2 (Ja7 m.step).length ++ (Ja7 m.step ++ (leB 2 (Ja7 m.move).length ++ Ja7 m.move)))))))))))))):=by
 simp only [Jba,Ju8,Jcs,List.append_assoc]
theorem Krv (m:Im):Kor (Jba m) 4 4=leB 4 m.ver.toNat:=by
 unfold Kor;rw [Kox,show(4:Nat)=4+0 from rfl,Koq (x:=[77,73,68,83]) (j:=4) rfl,List.drop_zero,Koy (Y4 4 _)]
theorem Kry (m:Im):Kor (Jba m) 8 4=leB 4 m.fro.toNat:=by
 unfold Kor;rw [Kox,show(8:Nat)=4+(4+0) from rfl,Koq (x:=[77,73,68,83]) (j:=4) rfl,Koq (Y4 4 _),List.drop_zero,Koy (Y4 4 _)]
theorem Kr0 (m:Im):Kor (Jba m) 12 1=leB 1 m.eld.toNat:=by
 unfold Kor;rw [Kox,show(12:Nat)=4+(4+(4+0)) from rfl,Koq (x:=[77,73,68,83]) (j:=4) rfl,Koq (Y4 4 _),Koq (Y4 4 _),List.drop_zero,Koy (Y4 1 _)]
theorem Ktl (m:Im):Kor (Jba m) 13 1=leB 1 m.fr.s.toNat:=by
 unfold Kor;rw [Kox,show(13:Nat)=4+(4+(4+(1+0))) from rfl,Koq (x:=[77,73,68,83]) (j:=4) rfl,Koq (Y4 4 _),Koq (Y4 4 _),Koq (Y4 1 _),List.drop_zero,Koy (Y4 1 _)]
theorem Ks9 (m:Im):Kor (Jba m) 14 1=leB 1 m.fr.n.toNat:=by
 unfold Kor;rw [Kox,show(14:Nat)=4+(4+(4+(1+(1+0)))) from rfl,Koq (x:=[77,73,68,83]) (j:=4) rfl,Koq (Y4 4 _),Koq (Y4 4 _),Koq (Y4 1 _),Koq (Y4 1 _),List.drop_zero,Koy (Y4 1 _)]
theorem Kte (m:Im):Kor (Jba m) 15 1=leB 1 m.fr.i.toNat:=by
 unfold Kor;rw [Kox,show(15:Nat)=4+(4+(4+(1+(1+(1+0))))) from rfl,Koq (x:=[77,73,68,83]) (j:=4) rfl,Koq (Y4 4 _),Koq (Y4 4 _),Koq (Y4 1 _),Koq (Y4 1 _),Koq (Y4 1 _),List.drop_zero,Koy (Y4 1 _)]
theorem Kti (m:Im):Kor (Jba m) 16 1=leB 1 m.fr.u.toNat:=by
 unfold Kor;rw [Kox,show(16:Nat)=4+(4+(4+(1+(1+(1+(1+0)))))) from rfl,Koq (x:=[77,73,68,83]) (j:=4) rfl,Koq (Y4 4 _),Koq (Y4 4 _),Koq (Y4 1 _),Koq (Y4 1 _),Koq (Y4 1 _),Koq (Y4 1 _),List.drop_zero,Koy (Y4 1 _)]
theorem Ksy (m:Im):Kor (Jba m) 17 2=leB 2 m.sf.toNat:=by
 unfold Kor;rw [Kox,show(17:Nat)=4+(4+(4+(1+(1+(1+(1+(1+0))))))) from rfl,Koq (x:=[77,73,68,83]) (j:=4) rfl,Koq (Y4 4 _),Koq (Y4 4 _),Koq (Y4 1 _),Koq (Y4 1 _),Koq (Y4 1 _),Koq (Y4 1 _),Koq (Y4 1 _),List.drop_zero,Koy (Y4 2 _)]
theorem Ksq (m:Im):Kor (Jba m) 19 2=leB 2 m.mf.toNat:=by
 unfold Kor;rw [Kox,show(19:Nat)=4+(4+(4+(1+(1+(1+(1+(1+(2+0)))))))) from rfl,Koq (x:=[77,73,68,83]) (j:=4) rfl,Koq (Y4 4 _),Koq (Y4 4 _),Koq (Y4 1 _),Koq (Y4 1 _),Koq (Y4 1 _),Koq (Y4 1 _),Koq (Y4 1 _),Koq (Y4 2 _),List.drop_zero,Koy (Y4 2 _)]
theorem Kpn (m:Im):(Jba m).drop 21=leB 2 (Je9 m.first).length ++ (Je9 m.first ++ (leB 2 (Ja7 m.step).length ++ (Ja7 m.step ++ (leB 2 (Ja7 m.move).length ++ Ja7 m.move)))):=by
 rw [Kox,show(21:Nat)=4+(4+(4+(1+(1+(1+(1+(1+(2+(2+0))))))))) from rfl,Koq (x:=[77,73,68,83]) (j:=4) rfl,Koq (Y4 4 _),Koq (Y4 4 _),Koq (Y4 1 _),Koq (Y4 1 _),Koq (Y4 1 _),Koq (Y4 1 _),Koq (Y4 1 _),Koq (Y4 2 _),Koq (Y4 2 _),List.drop_zero]
theorem Ksx (m:Im):(Jba m).take 4 = [77,73,68,83]:=by
 rw [Kox,Koy (x:=[77,73,68,83]) (j:=4) rfl]
theorem Ko7 (l:List Int) (a k w:Nat):Kor l (a+k) w=Kor (l.drop a) k w:=by unfold Kor;rw [List.drop_drop]
theorem Kqe (m:Im):Kor (Jba m) 21 2=leB 2 (Je9 m.first).length/\Kor (Jba m) 23 (Je9 m.first).length=Je9 m.first:=by
 refine⟨?_,?_⟩
 ·rw [show(21:Nat)=21+0 from rfl,Ko7,Kpn];unfold Kor;rw [List.drop_zero,Koy (Y4 2 _)]
 ·rw [show(23:Nat)=21+(2+0) from rfl,Ko7,Kpn];unfold Kor;rw [Koq (Y4 2 _),List.drop_zero,Koy rfl]
theorem Kqn (m:Im):Kor (Jba m) (23+(Je9 m.first).length) 2=leB 2 (Ja7 m.step).length/\Kor (Jba m) (23+(Je9 m.first).length+2) (Ja7 m.step).length=Ja7 m.step:=by
 refine⟨?_,?_⟩
 ·rw [show 23+(Je9 m.first).length=21+(2+((Je9 m.first).length+0)) by omega,Ko7,Kpn];unfold Kor;rw [Koq (Y4 2 _),Koq rfl,List.drop_zero,Koy (Y4 2 _)]
 ·rw [show 23+(Je9 m.first).length+2=21+(2+((Je9 m.first).length+(2+0))) by omega,Ko7,Kpn];unfold Kor;rw [Koq (Y4 2 _),Koq rfl,Koq (Y4 2 _),List.drop_zero,Koy rfl]
theorem Kqr (m:Im):Kor (Jba m) (25+(Je9 m.first).length+(Ja7 m.step).length) 2=leB 2 (Ja7 m.move).length/\Kor (Jba m) (25+(Je9 m.first).length+(Ja7 m.step).length+2) (Ja7 m.move).length=Ja7 m.move:=by
 refine⟨?_,?_⟩
 ·rw [show 25+(Je9 m.first).length+(Ja7 m.step).length=21+(2+((Je9 m.first).length+(2+((Ja7 m.step).length+0)))) by omega,Ko7,Kpn];unfold Kor;rw [Koq (Y4 2 _),Koq rfl,Koq (Y4 2 _),Koq rfl,List.drop_zero,Koy (Y4 2 _)]
 ·rw [show 25+(Je9 m.first).length+(Ja7 m.step).length+2=21+(2+((Je9 m.first).length+(2+((Ja7 m.step).length+(2+0))))) by omega,Ko7,Kpn];unfold Kor;rw [Koq (Y4 2 _),Koq rfl,Koq (Y4 2 _),Koq rfl,Koq (Y4 2 _),List.drop_zero,List.take_of_length_le (Ns _)]
theorem Ksf {m:Im} (h:m.Right):Kow (Jba m):=by
 rw [Kox]
 have hm:Kow [77,73,68,83]:=by
  intro x hx;simp only [List.mem_cons,List.not_mem_nil,or_false] at hx;exact Ua
 exact hm.app ((Ko1 _ _).app ((Ko1 _ _).app ((Ko1 _ _).app ((Ko1 _ _).app ((Ko1 _ _).app ((Ko1 _ _).app ((Ko1 _ _).app ((Ko1 _ _).app ((Ko1 _ _).app ((Ko1 _ _).app ((Kqg _).app ((Ko1 _ _).app ((Kp2 h.step.2.1).app ((Ko1 _ _).app (Kp2 h.move.2.1)))))))))))))))
end Go.Proofs.YtdgjplldlfeolaaGreatDoor
namespace Go.Proofs.YtdgjplldlfeolaaGreatDoor
open Go.RowKit Go.Sort
theorem Kp6 {l:List Int} {a k:Nat} {x:Int} (h:l[a+k]?=some x):Kor l a (k+1)=Kor l a k ++ [x]:=by
 unfold Kor;rw [List.take_add_one,List.getElem?_drop,h];exact Gp
theorem Kph {l:List Int} {a k:Nat} (h:a+k<=l.length):(Kor l a k).length=k:=by unfold Kor;rw [List.length_take,List.length_drop];omega
theorem Kpe {l:List Int} (h:Kow l) (a k:Nat):Kow (Kor l a k):=fun x hx=>h x (List.mem_of_mem_drop (List.mem_of_mem_take hx))
theorem Kr5 {l:List Int} (h:Kow l) (hl:l.length<=8):leN l<18446744073709551616:=by
 have h1:=Kp4 l h;have h2:256 ^ l.length<=256 ^ 8:=Nat.pow_le_pow_right Ug hl;have h3:(256:Nat) ^ 8=18446744073709551616:=Ug;exact Ua
theorem Kso {y k:Nat} (hy:y<256) (hk:k<8):y <<< (8 * k)<18446744073709551616:=by
 rw [Nat.shiftLeft_eq];have h1:2 ^ (8 * k)<=2 ^ 56:=Nat.pow_le_pow_right Ug Ua;have h2:y * 2 ^ (8 * k)<=255 * 2 ^ 56:=Nat.mul_le_mul Ua h1;have h3:(255 * 2 ^ 56:Nat)<18446744073709551616:=Ug;exact Ua
theorem Kpv (l:List Int) (A:Option Addr) (cap at_ wd:Nat) (w:World) (hb:Qc w (byU l) l.length A cap) (hl:l.length<=100000) (aw:Kow l) (h1:1<=wd) (h8:wd<=8) (hw:at_+wd<=l.length) :
  Calls Tryz.prog 66 #[.slice A l.length cap,.int .i64 at_,.int .i64 wd] w fun r w'=>r = .returned (.tuple #[.int .u64 (leN (Kor l at_ wd):Nat),.int .i64 0])/\w=w':=by
 obtain⟨b,off,rfl,hc⟩:=hb.2.2.2 Ua;have bI:=hb.1;have aD:=hb.2.1;unfold maxLen at aD;have d1:decide ((wd:Int)<1)=false:=Ui;have d2:decide ((8:Int)<wd)=false:=Ui;have d3:decide ((at_:Int)<0)=false:=Uh;have d4:decide ((l.length:Int)<at_)=false:=Ui;have d5:decide ((l.length:Int)-at_<wd)=false:=Ui;have HC:=Nf hc;clear hb hc
 go_enter Tryz.func66,Tryz.ntmps66
 go_wp2_with fail
 go_loopw [8,33] (fun n i wr=>∃k:Nat,k<=wd/\i = .int .i64 k/\n = .int .u64 (leN (Kor l at_ k):Nat)/\wr=w) (fun _ i _=>wd-(intOf i).toNat)
 case atStart=>exact⟨0,Np,rfl,by simp [Kor,leN],rfl⟩
 case round=>
  obtain⟨k,hk,rfl,rfl,rfl⟩:=hrel
  by_cases am:k<wd
  ·have hx:l[at_+k]?=some l[at_+k]:=Ng Ua;have hxm:l[at_+k]∈l:=Nj Ua;generalize l[at_+k]=x at hx hxm;obtain⟨hx0,vK⟩:=aw x hxm;have xU:=Nb wr b (off+(at_+k)) (.int .u8 x) (HC.out _ _ (by unfold byU;rw [List.getElem?_map,hx];rfl));have dS:(Kor l at_ k).length=k:=Kph Ua;have nk:=Krw (Kor l at_ k) x (Kpe aw _ _);rw [dS,<-Kp6 hx] at nk;have zZ:=Kr5 (Kpe aw at_ k) (by rw [dS];omega);have dO:=Kr5 (Kpe aw at_ (k+1)) (by rw [Kph Ua];omega);have hHOR:=Nf nk;clear hx hxm dS nk
   go_wp2_with fail
   go_roundw
   case rel=>
    refine⟨k+1,Ua,Uw,?_,Fq⟩;obtain⟨y,rfl⟩:∃y:Nat,x=(y:Int):=⟨x.toNat,Ua⟩;have mn:=Kso (y:=y) (k:=k) Ua Ua
    have e1:IntKind.u64.wrap ((y:Int) * 2 ^ (8 * k))=((y <<< (8 * k):Nat):Int):=by
     have e2:((y:Int) * 2 ^ (8 * k))=((y <<< (8 * k):Nat):Int):=by rw [Nat.shiftLeft_eq];push_cast;rfl
     rw [e2,IntKind.wrap_u64];generalize y <<< (8 * k)=z at mn;exact Ua
    rw [e1,bits_or_u64_nat _ _ zZ mn];have:=hHOR.out;simp only [Int.toNat_natCast] at this;rw [this]
   case measure=>simp [intOf];omega
  ·obtain rfl:k=wd:=Ua
   go_wp2_with fail
   go_ret2
   exact⟨rfl,rfl⟩
theorem Kr3 (l:List Int) (a k:Nat):byU (Kor l a k)=((byU l).drop a).take k:=by unfold byU Kor;rw [List.map_take,List.map_drop]
theorem Kqd {l:List Int} (h:Kow l) (hl:l.length<=4):leN l<4294967296:=by
 have h1:=Kp4 l h;have h2:256 ^ l.length<=256 ^ 4:=Nat.pow_le_pow_right Ug hl;have h3:(256:Nat) ^ 4=4294967296:=Ug;exact Ua
theorem Qc.part {w:World} {l:List Int} {b off cap a k:Nat} (h:Qc w (byU l) l.length (some ⟨b,off,none⟩) cap) (hk:a+k<=l.length):X6 w (some ⟨b,off+a,none⟩) k 1 (byU (Kor l a k)):=
 ⟨by rw [Ji3,Kph hk];omega,fun h0=>⟨b,off+a,rfl,fun j u hj=>by
  obtain⟨b2,off2,hA,hc⟩:=h.2.2.2 Ua;injection hA with hA;injection hA with e1 e2;subst e1 e2;rw [Kr3,List.getElem?_take] at hj
  split at hj
  ·rw [List.getElem?_drop] at hj;rw [Nat.add_assoc];exact hc _ _ hj
  ·cases hj⟩⟩
def Ks2 (w:World) (l:List Int) (from_ n:Nat) (r:Ending) (w':World):Prop:=
 (∃v,r = .returned (.tuple #[v,.int .i64 (from_+n:Nat),.int .i64 0])/\w'.ownsRow w.heap.size 5 1 v n (byU (Kor l from_ n)))/\Below w.heap.size w w'
theorem Kqz (l:List Int) (A:Option Addr) (cap at_ n:Nat) (w:World) (hb:Qc w (byU l) l.length A cap) (hl:l.length<=100000) (aw:Kow l) (hn:leN (Kor l at_ 2)=n) (nn:at_+2+n<=l.length) :
  Calls Tryz.prog 68 #[.slice A l.length cap,.int .i64 at_] w (Ks2 w l (at_+2) n):=by
 have iD:=fun W (h:Below w.heap.size w W)=>Kpv l A cap at_ 2 W (hb.later h) hl aw Ua Ua Ua;rw [hn] at iD
 push_cast at iD
 obtain⟨b,off,rfl,-⟩:=hb.2.2.2 Ua;have jk:=hb.part (a:=at_+2) (k:=n) nn;have bI:=hb.1;have aD:=hb.2.1;unfold maxLen at aD;have e1:IntKind.i64.wrap (n:Int)=(n:Int):=Sk;have d1:decide ((l.length:Int)-((at_:Int)+2)<(n:Int))=false:=Ui;have d2:¬((l.length:Int)-((at_:Int)+2)<(n:Int)):=Ua;have bH:∀(v:Value) (w2:World),w2.ownsRow w.heap.size 5 1 v (0+n) ([] ++ byU (Kor l (at_+2) n))->w2.ownsRow w.heap.size 5 1 v n (byU (Kor l (at_+2) n)):=fun v w2 h=>Vl;unfold Ks2
 by_cases hcap:cap=at_+2
 ·obtain rfl:n=0:=Ua;subst hcap;have hpt0:X6 w (some ⟨b,off,none⟩) 0 1 (byU (Kor l (at_+2) 0)):=⟨by simp [byU,Kor],fun h=>absurd h Ua⟩;have HPT:=Nf hpt0;clear hb aw hn jk hpt0
  go_enter Tryz.func68,Tryz.ntmps68
  go_wp2_with (first
   | (go_at_call 66;go_loud (refine(iD _ (Nt)).mono ?_;rintro r w1 ⟨rfl,rfl⟩))
   | (at_builtin;go_loud (refine K6 rfl _ _ 50 rfl w.heap.size 5 _ 1 1 Tryz.underlying50 Jgl rfl Ua (.slice none 0 0) 0 [] (some ⟨b,off,none⟩) 0 (at_+2-(at_+2)) (byU (Kor l (at_+2) 0)) rfl (Nw) rfl HPT.out (Jgm _) Ua Ua (Ns _) ?_;intro v2 w2 ao aq)))
  refine Nv (v:= .tuple #[v2,.int .i64 ((at_+2+0:Nat):Int),.int .i64 0]) (by simp [results,Tryz.results68,go_sem, *]) rfl ?_;exact⟨⟨_,rfl,bH _ _ ao⟩,aq⟩
 ·have hpt2:X6 w (some ⟨b,off+(at_+2),none⟩) (at_+2+n-(at_+2)) 1 (byU (Kor l (at_+2) n)):=by rw [show at_+2+n-(at_+2)=n by omega];exact jk
  have hfin2:∀(v:Value) (w2:World),w2.ownsRow w.heap.size 5 1 v (0+(at_+2+n-(at_+2))) ([] ++ byU (Kor l (at_+2) n))->w2.ownsRow w.heap.size 5 1 v n (byU (Kor l (at_+2) n)):=fun v w2 h=>by rw [show at_+2+n-(at_+2)=n by omega] at h;simpa using h
  have HPT:=Nf hpt2;clear hb aw hn jk hpt2
  go_enter Tryz.func68,Tryz.ntmps68
  go_wp2_with (first
   | (go_at_call 66;go_loud (refine(iD _ (Nt)).mono ?_;rintro r w1 ⟨rfl,rfl⟩))
   | (at_builtin;go_loud (refine K6 rfl _ _ 50 rfl w.heap.size 5 _ 1 1 Tryz.underlying50 Jgl rfl Ua (.slice none 0 0) 0 [] (some ⟨b,off+(at_+2),none⟩) (at_+2+n-(at_+2)) (cap-(at_+2)) (byU (Kor l (at_+2) n)) rfl (Nw) rfl HPT.out (Jgm _) Ua Ua (Ns _) ?_;intro v2 w2 ao aq)))
  refine Nv (v:= .tuple #[v2,.int .i64 ((at_+2+n:Nat):Int),.int .i64 0]) (by simp [results,Tryz.results68,go_sem, *]) rfl ?_;exact⟨⟨_,rfl,hfin2 _ _ ao⟩,aq⟩
def wdC (l:List Int):List Value:=l.map fun x=> .int .u32 (Xh x:Nat)
def WdS (l:List Int) (k:Nat) (xs:List Value):Prop:=(∀(j:Nat) (x:Int),j<k->l[j]?=some x->xs[j]?=some (.int .u32 (Xh x:Nat)))/\∀j,k<j->j<l.length->xs[j]?=some (.int .u32 0)
theorem Krz {y k:Nat} (hy:y<256) (hk:k<4):y <<< (8 * k)<4294967296:=by
 rw [Nat.shiftLeft_eq];have h1:2 ^ (8 * k)<=2 ^ 24:=Nat.pow_le_pow_right Ug Ua;have h2:y * 2 ^ (8 * k)<=255 * 2 ^ 24:=Nat.mul_le_mul Ua h1;have h3:(255 * 2 ^ 24:Nat)<4294967296:=Ug;exact Ua
theorem Ksd {l:List Int} {a q:Nat} {x:Int} (aw:Kow l) (hx:l[a+q]?=some x) (hq:q<4) :
  bits .or .u32 ((leN (Kor l a q):Nat):Int) (IntKind.u32.wrap (x * 2 ^ (8 * q)))=((leN (Kor l a (q+1)):Nat):Int):=by
 have am:=(Nh hx).1;obtain⟨hx0,vK⟩:=aw x (Ni hx);have dS:(Kor l a q).length=q:=Kph Ua;have nk:=Krw (Kor l a q) x (Kpe aw _ _);rw [dS,<-Kp6 hx] at nk;have zZ:=Kqd (Kpe aw a q) (by rw [dS];omega);obtain⟨y,rfl⟩:∃y:Nat,x=(y:Int):=⟨x.toNat,Ua⟩;have mn:=Krz (y:=y) (k:=q) Ua hq
 have e1:IntKind.u32.wrap ((y:Int) * 2 ^ (8 * q))=((y <<< (8 * q):Nat):Int):=by
  have e2:((y:Int) * 2 ^ (8 * q))=((y <<< (8 * q):Nat):Int):=by rw [Nat.shiftLeft_eq];push_cast;rfl
  rw [e2,IntKind.wrap_u32'];generalize y <<< (8 * q)=z at mn;exact Ua
 rw [e1,u32_or_nat _ _ zZ mn];simp only [Int.toNat_natCast] at nk;rw [nk]
theorem Kri {l:List Int} {a q:Nat} {x:Int} (aw:Kow l) (hx:l[a+q]?=some x) (hq:q<4) :
  bits .or .u32 ((leN (Kor l a q):Nat):Int) (x % 4294967296 * 2 ^ (8 * q) % 4294967296)=((leN (Kor l a (q+1)):Nat):Int):=by
 have h:=aw x (Ni hx);rw [show x % 4294967296=x by omega,<-IntKind.wrap_u32'];exact Ksd aw hx hq
theorem Krl (l:List Int) (A:Option Addr) (cap:Nat) (w:World) (hb:Qc w (byU (Je9 l)) (Je9 l).length A cap) (hl:l.length<=1000) :
  Calls Tryz.prog 69 #[.slice A (Je9 l).length cap] w fun r w'=>(∃v,r = .returned v/\w'.ownsRow w.heap.size 22 1 v l.length (wdC l))/\Below w.heap.size w w':=by
 have ai:(Je9 l).length=4 * l.length:=Jsn l;have bI:=hb.1;have aD:=hb.2.1;unfold maxLen at aD;obtain⟨ti,hti0,hti1,hti2,hti3⟩:=info_parts Jxv;have HB:=Nf hb;have ji:(((Je9 l).length:Int)+3) / 4=(l.length:Int):=Ua;have je:(((Je9 l).length:Int)+3).tdiv 4=(l.length:Int):=by rw [Int.tdiv_eq_ediv_of_nonneg Ua];omega
 have eO:=Nf ai;clear hb ai
 go_enter Tryz.func69,Tryz.ntmps69
 go_wp2_with (first|(at_make;go_loud (refine wpList_make_full _ rfl (.tmp 10) (.tmp 10) 141 rfl w.heap.size 22 ti _ 1 Tryz.underlying141 hti0 hti1 hti2 .i64 .i64 l.length l.length l.length rfl rfl rfl rfl (by rw [hti3];omega) Uo (Ns _) ?_;intro w2 ao aG)))
 have hg0:w.heap.size<w2.heap.size:=(ao.lt _ rfl).2;have iY:=Nd w w2 (Kou (Nt) aG (fun b hb=>by simp at hb) (Ns _));have HBW:=Nf iY;have sK:=Nf ao;clear aG ji je ao iY
 go_loopw [14] (fun i wr=>∃(k:Nat) (xs:List Value),k<=l.length/\i = .int .i64 k/\Hid (wr.ownsRow w.heap.size 22 1 (.slice (some ⟨w.heap.size,0,none⟩) l.length l.length) l.length xs)/\Hid (WdS l k xs/\(k<l.length->xs[k]?=some (.int .u32 0)))/\Hid (w2.grownBy wr (some w.heap.size))) (fun i _=>l.length-(intOf i).toNat)
 case atStart=>
  refine⟨0,_,Np,rfl,sK,Nf ?_,Nf ⟨rfl,rfl,rfl,Ns _,fun _ _ _=>rfl⟩⟩
  have hz:∀j,j<l.length->(madeCells (Value.int IntKind.u32 0).cells (l.length * 1)).toList[j]?=some (.int .u32 0):=fun j hj=>by
   rw [show(Value.int IntKind.u32 0).cells = #[Value.int .u32 0] from rfl,Nat.mul_one,toList_madeCells_one,List.getElem?_replicate,if_pos hj]
  exact⟨⟨fun j x hj=>absurd hj Ua,fun j _ hj=>hz j hj⟩,fun h=>hz 0 h⟩
 case round=>
  obtain⟨k,xs,hk,rfl,ae,hws,bB⟩:=hrel
  by_cases am:k<l.length
  ·go_wp2_with fail
   go_loopw [17] (fun i wr=>∃(q:Nat) (xs:List Value),q<=4/\i = .int .i64 q/\Hid (wr.ownsRow w.heap.size 22 1 (.slice (some ⟨w.heap.size,0,none⟩) l.length l.length) l.length xs)/\Hid (WdS l k xs/\xs[k]?=some (.int .u32 (leN (Kor (Je9 l) (4 * k) q):Nat)))/\Hid (w2.grownBy wr (some w.heap.size))) (fun i _=>4-(intOf i).toNat)
   case atStart=>exact⟨0,xs,Ua,rfl,ae,Nf ⟨hws.out.1,by rw [hws.out.2 am];simp [Kor,leN]⟩,bB⟩
   case round=>
    obtain⟨q,xs,hq,rfl,ae,hws,bB⟩:=hrel;have eC:=bB.out.size;have dh:=Nd w wr (Kou HBW.out bB.out (fun b hb=>Uv) Ua)
    by_cases dO:q<4
    ·have hm:=eO.out;have hx:(Je9 l)[4 * k+q]?=some (Je9 l)[4 * k+q]:=Ng Ua;generalize (Je9 l)[4 * k+q]=x at hx;have aY:=(HB.out.later dh).get (k:=4 * k+q) (u:= .int .u8 x) (by unfold byU;rw [List.getElem?_map,hx];rfl);obtain⟨b,off,hA,aH,xU⟩:=aY;have sP:=Kri (Kqg l) hx dO;have hxk:k<xs.length:=by have:=ae.out.1;omega
     have e0:=Nb wr w.heap.size k (.int .u32 (leN (Kor (Je9 l) (4 * k) q):Nat)) ((ae.out.cellAt k Ua).trans hws.out.2);have f0:=Nc wr w.heap.size k (ae.out.frozenAt k);have d1:decide (4 * k+q<(Je9 l).length)=true:=Ui;have d2:4 * k+q<(Je9 l).length:=Ua;have d3:(4:Int) * k+q<((Je9 l).length:Int):=Ua;subst hA;clear hx hm
     go_wp2_with fail
     go_roundw
     case rel=>
      have cP:=ae.out.stored k (.int .u32 (leN (Kor (Je9 l) (4 * k) (q+1)):Nat));refine⟨q+1,_,Ua,Uw,Nf cP.1,Nf ⟨⟨fun j x hj hx=>?_,fun j h1 h2=>?_⟩,List.getElem?_set_self hxk⟩,Nf (Qn bB.out cP.2)⟩
      ·rw [List.getElem?_set_ne Ua];exact hws.out.1.1 j x hj hx
      ·rw [List.getElem?_set_ne Ua];exact hws.out.1.2 j h1 h2
     case measure=>simp [intOf];omega
    ·obtain rfl:q=4:=Ua;have hm:=eO.out
     go_wp2_with fail
     go_roundw
     case rel=>
      refine⟨k+1,xs,Ua,Uw,ae,Nf ⟨⟨fun j x hj hx=>?_,fun j h1 h2=>hws.out.1.2 j Ua h2⟩,fun h=>hws.out.1.2 (k+1) Ua h⟩,bB⟩
      rcases Nat.lt_or_ge j k with h1|h1
      ·exact hws.out.1.1 j x h1 hx
      ·obtain rfl:j=k:=Ua;have h2:=hws.out.2;have h3:=Ksm hx;unfold Kor at h2;rw [h3,Ksa] at h2;exact h2
     case measure=>simp [intOf];omega
  ·obtain rfl:k=l.length:=Ua;have dh:=Nd w wr (Kou HBW.out bB.out (fun b hb=>Uv) Ua)
   have sd:xs=wdC l:=by
    apply List.ext_getElem?;intro j;unfold wdC;rw [List.getElem?_map]
    rcases Nat.lt_or_ge j l.length with h1|h1
    ·have hx:l[j]?=some l[j]:=Ng h1;rw [hws.out.1.1 j l[j] h1 hx,hx];exact Gp
    ·have h2:=ae.out.1;rw [List.getElem?_eq_none Ua,List.getElem?_eq_none h1];exact Gp
   have ao:=ae.out;rw [sd] at ao;clear sd
   go_wp2_with fail
   go_ret;exact⟨⟨_,rfl,ao⟩,dh⟩
theorem Kpz (v:Int) (hv:I32 v) (w:World):Calls Tryz.prog 70 #[.int .u32 (Xh v:Nat)] w fun r w'=>r = .returned (.int .i32 v)/\w=w':=by
 have hs:=Kqu hv
 go_enter Tryz.func70,Tryz.ntmps70
 go_wp2_with fail
 go_ret;exact⟨by simp [hs],rfl⟩
structure Kq6 (l:List Int) (at_:Nat) (i:Int×Int):Prop where
 op:leN (Kor l at_ 1)=i.1.toNat
 n:leN (Kor l (at_+1) (Qp i.1).toNat)=Xh i.2
 le:at_+1+(Qp i.1).toNat<=l.length
theorem Kp5 (i:Int×Int):(Jdm i).length=1+(Qp i.1).toNat:=by unfold Jdm;rw [Nl,Y4];omega
theorem Ksj {c:List (Int×Int)} {k:Nat} {i:Int×Int} (h:c[k]?=some i) (hr:Qj i=0) (h32:I32 i.2):Kq6 (Ja7 c) (Ja7 (c.take k)).length i:=by
 have aY:=Ksg h;have aD:=Kp5 i
 have ai:(Ja7 (c.take k)).length+1+(Qp i.1).toNat<=(Ja7 c).length:=by
  have:=congrArg List.length aY;rw [List.length_drop,Nk] at this;exact Ua
 have jf:=Kpg hr;refine⟨?_,?_,ai⟩
 ·unfold Kor;rw [aY];unfold Jdm;rw [List.cons_append,List.take_succ_cons,List.take_zero];simp [leN]
 ·rw [show(Ja7 (c.take k)).length+1=(Ja7 (c.take k)).length+1 from rfl,Ko7,aY];unfold Kor Jdm;rw [List.cons_append,List.drop_succ_cons,List.drop_zero,Koy (Y4 _ _)];exact Kst hr h32
theorem Krj (l:List Int) (A:Option Addr) (cap at_:Nat) (i:Int×Int) (w:World) (hb:Qc w (byU l) l.length A cap) (hl:l.length<=100000) (aw:Kow l) (hi:Kq6 l at_ i) (hr:Qj i=0) (h32:I32 i.2) :
  Calls Tryz.prog 99 #[.slice A l.length cap,.int .i64 at_] w fun r w'=>r = .returned (.tuple #[.agg #[.int .i64 i.1,.int .i32 i.2],.int .i64 (at_+1+(Qp i.1).toNat:Nat),.int .i64 0])/\Below w.heap.size w w':=by
 obtain⟨op,n⟩:=i;obtain⟨g1,g2,g3⟩:=hi;have jf:=Kpg hr;dsimp only at g1 g2 g3 jf h32 ⊢;have eN:=fun W (h:Below w.heap.size w W)=>Kpv l A cap at_ 1 W (hb.later h) hl aw Ua Ua Ua;have aG:=fun W (h:Below w.heap.size w W)=>Kpv l A cap (at_+1) (Qp op).toNat W (hb.later h) hl aw Ua Ua Ua;rw [g1] at eN;rw [g2] at aG;have hw:(((Qp op).toNat:Nat):Int)=Qp op:=Ua;have hopn:((op.toNat:Nat):Int)=op:=Ua;rw [hw] at aG;rw [hopn] at eN;have cO:=fun W=>Jdz op W;have aB:=fun W=>Jlr op n W;unfold Jby at aB;rw [hr] at aB;have hsig:=fun W=>Kpz n h32 W;have dS:=Jne n;have e1:IntKind.i64.wrap op=op:=Sk;have e2:IntKind.u32.wrap ((Xh n:Nat):Int)=((Xh n:Nat):Int):=by rw [IntKind.wrap_u32'];omega
 have t1:(Qp op == 0)=false:=by simpa using jf.2.2.1
 have hz:((at_+1+(Qp op).toNat:Nat):Int)=(at_:Int)+1+Qp op:=Ua;rw [hz];have ai:=g3;have hwr:=Jlt op
 push_cast at eN aG
 have yf:wrap64 ((at_:Int)+1+Qp op)=(at_:Int)+1+Qp op:=by unfold wrap64;omega
 clear hb aw g1 g2 hr h32 hw hopn hz hwr jf;generalize Qp op=W0 at *
 go_enter Tryz.func99,Tryz.ntmps99
 go_wp2_with (first
  | (go_at_call_of 66 (Value.int IntKind.i64 1);go_loud (refine(eN _ Jb).mono ?_;rintro r w1 ⟨rfl,rfl⟩))
  | (go_at_call_of 66 (Value.int IntKind.i64 W0);go_loud (refine(aG _ Jb).mono ?_;rintro r w1 ⟨rfl,rfl⟩))
  | (go_at_call 115;go_loud (refine(cO _).mono ?_;rintro r w2 ⟨rfl,aq⟩;have dm:=Jg aq;have gO:=Jf aq;have br:=aq.size;(try simp at br);have gq:=lt0 w w2))
  | (go_at_call 70;go_loud (refine(hsig _).mono ?_;rintro r w3 ⟨rfl,rfl⟩))
  | (go_at_call 95;go_loud (refine(aB _).mono ?_;rintro r w4 ⟨rfl,ei⟩;have wA:=Jg ei;have hf4:=Jf ei;have qS:=ei.size;(try simp at qS);have ns:=lt0 w w4;have nt:=lt0 w2 w4;have z0:=Na w4 w.heap.size 0 0 ((wA _ _ Ud).trans (J4 ((dm _ _ Uh).trans Uc)));have z1:=Nb w4 w.heap.size 1 (.int .i32 0) ((wA _ _ Ud).trans (J4 ((dm _ _ Uh).trans Uc))))))
 refine Nv (v:= .tuple #[.agg #[.int .i64 op,.int .i32 n],.int .i64 ((at_:Int)+1+W0),.int .i64 0]) (by simp [results,Tryz.results99,go_sem, *]) rfl ⟨rfl,?_⟩;exact Km
end Go.Proofs.YtdgjplldlfeolaaGreatDoor
namespace Go.Proofs.YtdgjplldlfeolaaGreatDoor
open Go.RowKit
theorem Kr1 (m:Im):(Jba m).length=27+(Je9 m.first).length+(Ja7 m.step).length+(Ja7 m.move).length:=by rw [Kox];simp [Y4];omega
structure Ktj (m:Im) (l:List Int):Prop where
 ok:Kow l
 magic:l.take 4 = [77,73,68,83]
 ver:leN (Kor l 4 4)=m.ver.toNat
 fro:leN (Kor l 8 4)=m.fro.toNat
 eld:leN (Kor l 12 1)=m.eld.toNat
 s:leN (Kor l 13 1)=m.fr.s.toNat
 n:leN (Kor l 14 1)=m.fr.n.toNat
 i:leN (Kor l 15 1)=m.fr.i.toNat
 u:leN (Kor l 16 1)=m.fr.u.toNat
 sf:leN (Kor l 17 2)=m.sf.toNat
 mf:leN (Kor l 19 2)=m.mf.toNat
 k1:leN (Kor l 21 2)=(Je9 m.first).length
 r1:Kor l 23 (Je9 m.first).length=Je9 m.first
 k2:leN (Kor l (23+(Je9 m.first).length) 2)=(Ja7 m.step).length
 r2:Kor l (23+(Je9 m.first).length+2) (Ja7 m.step).length=Ja7 m.step
 k3:leN (Kor l (25+(Je9 m.first).length+(Ja7 m.step).length) 2)=(Ja7 m.move).length
 r3:Kor l (25+(Je9 m.first).length+(Ja7 m.step).length+2) (Ja7 m.move).length=Ja7 m.move
 len:l.length=27+(Je9 m.first).length+(Ja7 m.step).length+(Ja7 m.move).length
theorem Kss {m:Im} (h:m.Right) (hv:0<=m.ver/\m.ver<4294967296) (hf:0<=m.fro/\m.fro<4294967296) (hl:(Jba m).length<=2016):Ktj m (Jba m):=by
 obtain⟨g1,g2,g3,g4,g5⟩:=Fr.good_iff.1 h.fr;have ai:=Kr1 m;have b1:∀x:Nat,x<256->leN (leB 1 x)=x:=fun x hx=>Kpm 1 x Do;have b2:∀x:Nat,x<65536->leN (leB 2 x)=x:=fun x hx=>Kpm 2 x Do;have b4:∀x:Nat,x<4294967296->leN (leB 4 x)=x:=fun x hx=>Kpm 4 x Do;have he:=h.eld;have hs:=h.step.2.2;have hm:=h.move.2.2
 exact⟨Ksf h,Ksx m,by rw [Krv,b4 _ Ua],by rw [Kry,b4 _ Ua],by rw [Kr0,b1 _ Ua],by rw [Ktl,b1 _ Ua],by rw [Ks9,b1 _ Ua],by rw [Kte,b1 _ Ua],by rw [Kti,b1 _ Ua],
  by rw [Ksy,b2 _ Ua],by rw [Ksq,b2 _ Ua],by rw [(Kqe m).1,b2 _ Ua],(Kqe m).2,by rw [(Kqn m).1,b2 _ Ua],(Kqn m).2,by rw [(Kqr m).1,b2 _ Ua],(Kqr m).2,ai⟩
end Go.Proofs.YtdgjplldlfeolaaGreatDoor
namespace Go.Proofs.YtdgjplldlfeolaaGreatDoor
open Go.RowKit Go.Sort
theorem Ksl {c:List (Int×Int)} {k:Nat} {i:Int×Int} (h:c[k]?=some i):(Ja7 (c.take (k+1))).length=(Ja7 (c.take k)).length+1+(Qp i.1).toNat:=by
 obtain⟨am,rfl⟩:=Nh h;rw [List.take_succ_eq_append_getElem am];unfold Ja7;rw [List.flatMap_append,Nk];simp [Kp5];omega
theorem Kq2 (c:List (Int×Int)) (k:Nat):(Ja7 (c.take k)).length<=(Ja7 c).length:=by
 conv=>rhs;rw [<-List.take_append_drop k c]
 unfold Ja7;rw [List.flatMap_append,Nk];exact Ua
def Ksv (w:World) (c:List (Int×Int)) (r:Ending) (w':World):Prop:=
 (∃v,r = .returned (.tuple #[v,.int .i64 0,.int .i64 0])/\w'.ownsRow w.heap.size 122 2 v c.length (cdC c))/\Below w.heap.size w w'
theorem Kpy (c:List (Int×Int)) (A:Option Addr) (cap:Nat) (w:World) (hb:Qc w (byU (Ja7 c)) (Ja7 c).length A cap) (hl:(Ja7 c).length<=100000) (h6:c.length<=600) (hr:∀i∈c,Qj i=0) (h32:∀i∈c,I32 i.2) :
  Calls Tryz.prog 71 #[.slice A (Ja7 c).length cap] w (Ksv w c):=by
 have aw:=Kp2 hr;have xb:=fun(k:Nat) (i:Int×Int) (h:c[k]?=some i) W (hW:Below w.heap.size w W)=>Krj (Ja7 c) A cap (Ja7 (c.take k)).length i W (hb.later hW) hl aw (Ksj h (hr i (Ni h)) (h32 i (Ni h))) (hr i (Ni h)) (h32 i (Ni h));have bI:=hb.1;have aD:=hb.2.1;unfold maxLen at aD;have cP:=fun(k:Nat) (i:Int×Int) (h:c[k]?=some i)=>Ksl h;have nn:=Kq2 c;have wt:(Ja7 (c.take c.length)).length=(Ja7 c).length:=by rw [List.take_length]
 have hW:=fun(k:Nat) (i:Int×Int) (h:c[k]?=some i)=>(Kpg (hr i (Ni h))).2.2.2;generalize (Ja7 c).length=n at *;have hf:∃f:Nat->Nat,f=fun k=>(Ja7 (c.take k)).length:=⟨_,rfl⟩;obtain⟨f,hf⟩:=hf;have ov:∀k,(Ja7 (c.take k)).length=f k:=fun k=>by rw [hf]
 have zb:f 0=0:=by rw [hf];rfl
 simp only [ov] at xb cP nn wt;have HRD:=Nf xb;have cJ:=Nf cP;have vC:=Nf nn;have HEND:=Nf wt;have HW:=Nf hW;clear hb aw hr h32 xb cP nn wt hf ov hW;unfold Ksv
 go_enter Tryz.func71,Tryz.ntmps71
 go_wp2_with fail
 go_loopw [5,6] (fun v i wr=>∃k:Nat,k<=c.length/\i = .int .i64 (f k:Nat)/\wr.ownsRow w.heap.size 122 2 v k (cdC (c.take k))/\Below w.heap.size w wr) (fun _ i _=>n-(intOf i).toNat)
 case atStart=>exact⟨0,Ua,by rw [zb];rfl,Nw,Nt⟩
 case round=>
  obtain⟨k,hk,rfl,ae,ab⟩:=hrel;have hz:=ab.size;obtain⟨A2,c2,rfl,ak,dm⟩:=Jv ae;unfold maxLen at dm
  by_cases am:k<c.length
  ·have hx:c[k]?=some c[k]:=Ng am;have aP:c.take (k+1)=c.take k ++ [c[k]]:=U7;generalize c[k]=i at hx aP;obtain⟨op,N⟩:=i;have xb:=HRD.out k (op,N) hx;have cP:=cJ.out k (op,N) hx;have hwd:=HW.out k (op,N) hx;dsimp only at xb cP hwd;rw [show f k+1+(Qp op).toNat=f (k+1) from cP.symm] at xb;have nn:=vC.out (k+1);have tF:1<=(Qp op).toNat:=Ua;have hle2:cdC (c.take (k+1))=cdC (c.take k) ++ [.int .i64 op,.int .i32 N]:=by rw [aP];unfold cdC;simp
   have t1:((k:Int) == 600)=false:=Ui;have d1:decide (f k<n)=true:=Ui;have HLE2:=Nf hle2;have HS:=Nf cP;clear hx aP hle2 cP hwd
   go_wp2_with (first
    | (go_at_call 99;go_loud (refine(xb _ ab).mono ?_;rintro r w1 ⟨rfl,ac⟩;have af:=ac.size))
    | (at_builtin;go_loud (refine K6 rfl (.tmp 29) (.tmp 31) 27 rfl w.heap.size 122 _ 2 16 Tryz.underlying27 Qz rfl Ua (.slice A2 k c2) k (cdC (c.take k)) (some ⟨w1.heap.size+1,0,none⟩) 1 1 [.int .i64 op,.int .i32 N] rfl (Js (Js (Jy ae ac))) rfl ⟨rfl,fun _=>⟨w1.heap.size+1,0,rfl,fun j u hj=>by rw [Nat.zero_add];exact(Qo Uh).trans Ma⟩⟩ Vg Ua Ua Ud ?_;intro v2 w2 ao aq)))
   go_roundw
   case rel=>exact⟨k+1,Ua,rfl,by rw [HLE2.out];exact ao,by first|exact Jn (Jc (Jc (Jd ab ac) _) _) aq (Ns _)|exact Jb⟩
   case measure=>have:=HS.out;simp [intOf];omega
  ·obtain rfl:k=c.length:=Ua;have he:=HEND.out;have d1:decide (f c.length<n)=false:=Ui;rw [List.take_length] at ae;clear he
   go_wp2_with fail
   refine Nv (v:= .tuple #[.slice A2 c.length c2,.int .i64 0,.int .i64 0]) (by simp [results,Tryz.results71,go_sem, *]) rfl ⟨⟨_,rfl,ae⟩,ab⟩
theorem Kq1 {W:World} {b o:Nat} {v:Value} (h:W.cell? ⟨b,o,none⟩=some v):W.setCell ⟨b,o,none⟩ v=W:=by
 exact T7
structure RdS (W:World) (gb ga gk:Nat) (l:List Int) (A:Option Addr) (cap at_:Nat):Prop where
 cb:W.cell? ⟨gb,0,none⟩=some (.slice A l.length cap)
 ca:W.cell? ⟨ga,0,none⟩=some (.int .i64 at_)
 ck:W.cell? ⟨gk,0,none⟩=some (.bool true)
 fa:W.frozen? ⟨ga,0,none⟩=false
 fk:W.frozen? ⟨gk,0,none⟩=false
 row:Qc W (byU l) l.length A cap
 bA:∀b off,A=some ⟨b,off,none⟩->b≠ga
 n1:gb≠ga
 n2:gk≠ga
section
variable {W W':World} {gb ga gk:Nat} {l:List Int} {A:Option Addr} {cap at_:Nat}
theorem RdS.lt (h:RdS W gb ga gk l A cap at_):gb<W.heap.size/\ga<W.heap.size/\gk<W.heap.size:=⟨Nu h.cb,Nu h.ca,Nu h.ck⟩
theorem RdS.later (h:RdS W gb ga gk l A cap at_) (hb:Below W.heap.size W W'):RdS W' gb ga gk l A cap at_:=
 ⟨Ja hb h.cb,Ja hb h.ca,Ja hb h.ck,(Jf hb _ _ h.lt.2.1).trans h.fa,(Jf hb _ _ h.lt.2.2).trans h.fk,h.row.later hb,h.bA,h.n1,h.n2⟩
theorem RdS.aside (h:RdS W gb ga gk l A cap at_) {x o:Nat} (hx:x≠gb/\x≠ga/\x≠gk) (hA:∀b off,A=some ⟨b,off,none⟩->b≠x) (v:Value):RdS (W.setCell ⟨x,o,none⟩ v) gb ga gk l A cap at_:=
 ⟨(Qm _ _ _ _ _ _ (Ne.symm hx.1)).trans h.cb,(Qm _ _ _ _ _ _ (Ne.symm hx.2.1)).trans h.ca,(Qm _ _ _ _ _ _ (Ne.symm hx.2.2)).trans h.ck,(World.frozen?_setCell ..).trans h.fa,(World.frozen?_setCell ..).trans h.fk,
  ⟨h.row.1,h.row.2.1,h.row.2.2.1,fun h0=>by
   obtain⟨b,off,hb,hc⟩:=h.row.2.2.2 h0;exact⟨b,off,hb,fun j u hj=>(Qm _ _ _ _ _ _ (hA b off hb)).trans (hc j u hj)⟩⟩,h.bA,h.n1,h.n2⟩
theorem RdS.move (h:RdS W gb ga gk l A cap at_) (n:Nat):RdS (W.setCell ⟨ga,0,none⟩ (.int .i64 n)) gb ga gk l A cap n:=
 ⟨(Qm _ _ _ _ _ _ h.n1).trans h.cb,Nx _ _ _ h.ca,(Qm _ _ _ _ _ _ h.n2).trans h.ck,(World.frozen?_setCell ..).trans h.fa,(World.frozen?_setCell ..).trans h.fk,
  ⟨h.row.1,h.row.2.1,h.row.2.2.1,fun h0=>by
   obtain⟨b,off,hb,hc⟩:=h.row.2.2.2 h0;exact⟨b,off,hb,fun j u hj=>(Qm _ _ _ _ _ _ (h.bA b off hb)).trans (hc j u hj)⟩⟩,h.bA,h.n1,h.n2⟩
theorem Ksr (h:RdS W gb ga gk l A cap at_) (hl:l.length<=100000) (aw:Kow l) (wd:Nat) (h1:1<=wd) (h4:wd<=4) (hw:at_+wd<=l.length) :
  Calls Tryz.prog 65 #[.int .i64 wd,.pointer (some ⟨gb,0,none⟩),.pointer (some ⟨ga,0,none⟩),.pointer (some ⟨gk,0,none⟩)] W fun r w'=>r = .returned (.int .i64 (leN (Kor l at_ wd):Nat))/\w'=W.setCell ⟨ga,0,none⟩ (.int .i64 (at_+wd:Nat)):=by
 have iD:=Kpv l A cap at_ wd W h.row hl aw h1 Ua hw;have jN:=Kqd (Kpe aw at_ wd) (by rw [Kph hw];exact h4);generalize leN (Kor l at_ wd)=V at *;obtain⟨cb,ca,ck,fa,fk,-,-,n1,n2⟩:=h;have l1:=Nu cb;have l2:=Nu ca;have l3:=Nu ck;have hsid:W.setCell ⟨gk,0,none⟩ (.bool true)=W:=Kq1 ck;have e1:IntKind.i64.wrap (V:Int)=(V:Int):=Sk;have hmin:min ((at_:Int)+wd) l.length=(at_:Int)+wd:=Ua;have hmin2:min (at_+wd) l.length=at_+wd:=Ua
 go_enter Tryz.func65,Tryz.ntmps65
 go_wp2_with (go_at_call 66;go_loud (refine iD.mono ?_;rintro r w1 ⟨rfl,rfl⟩))
 go_ret;exact⟨rfl,by rw [show((at_+wd:Nat):Int)=(at_:Int)+wd by omega]⟩
def Ksn (W:World) (ga:Nat) (l:List Int) (at_ n:Nat) (r:Ending) (w':World):Prop:=
 ∃v w1,r = .returned v/\w1.ownsRow W.heap.size 5 1 v n (byU (Kor l (at_+2) n))/\Below W.heap.size W w1/\w'=w1.setCell ⟨ga,0,none⟩ (.int .i64 (at_+2+n:Nat))
theorem Kc1 (h:RdS W gb ga gk l A cap at_) (hl:l.length<=100000) (aw:Kow l) (n:Nat) (hn:leN (Kor l at_ 2)=n) (nn:at_+2+n<=l.length) :
  Calls Tryz.prog 67 #[.pointer (some ⟨gb,0,none⟩),.pointer (some ⟨ga,0,none⟩),.pointer (some ⟨gk,0,none⟩)] W (Ksn W ga l at_ n):=by
 have eH:=Kqz l A cap at_ n W h.row hl aw hn nn;obtain⟨cb,ca,ck,fa,fk,-,-,n1,n2⟩:=h;have l1:=Nu cb;have l2:=Nu ca;have l3:=Nu ck;unfold Ks2 at eH;unfold Ksn;generalize byU (Kor l (at_+2) n)=xs at *;clear hn
 go_enter Tryz.func67,Tryz.ntmps67
 go_wp2_with (go_at_call 68;go_loud (refine eH.mono ?_;rintro r w1 ⟨⟨v,rfl,ae⟩,ac⟩;have c1:=Ja ac ca;have f1:=(Jf ac ga 0 l2).trans fa;obtain⟨A1,cc1,rfl,-,-⟩:=Jv ae))
 go_ret;exact⟨_,_,rfl,ae,ac,rfl⟩
end
theorem X9.of {w W:World} {B n:Nat} {v:Value} {xs:List Value} {l:List (Int×Int)} (h:W.ownsRow B 122 2 v n xs) (hn:n=l.length) (hx:xs=cdC l) (hB:w.heap.size<=B) (hb:Below w.heap.size w W):X9 w l (.returned v) W:=by
 subst hn hx;exact⟨⟨v,rfl,K8 h hB⟩,hb⟩
end Go.Proofs.YtdgjplldlfeolaaGreatDoor
namespace Go.Proofs.YtdgjplldlfeolaaGreatDoor
open Go.RowKit
theorem Jay.find {p:Pr} (h:Jay p) {q:Qe} (hq:q∈p.eqs):∃(j:Nat) (v:Va),Jp (Je p) q.name=(j:Int)/\(Je p)[j]?=some v/\v∈Je p/\v.name=q.name/\(v.ck,v.cn)=J9 (Je p) q.name:=by
 obtain⟨v,hv,hf,hn,bO,_⟩:=Ja3 h.clk hq
 rcases Y5 (Je p) q.name with ⟨_,h2⟩|⟨k,u,h1,h2,h3⟩
 ·rw [hf] at h2;cases h2
 ·rw [hf] at h3;injection h3 with h3;subst h3;exact⟨k,v,h1,h2,hv,hn,bO.symm⟩
section
variable {sl sl':ByteArray->Int} {fl:Int×ByteArray->Int} {L:List Va}
namespace Ex
end Ex
end
end Go.Proofs.YtdgjplldlfeolaaGreatDoor
