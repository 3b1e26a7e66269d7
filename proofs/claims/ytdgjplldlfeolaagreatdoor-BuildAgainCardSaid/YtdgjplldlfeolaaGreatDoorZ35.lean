/- Lemmas. -/
import Derived.Test.YtdgjplldlfeolaaGreatDoorZ31
import Derived.Test.YtdgjplldlfeolaaGreatDoorZ10
import Derived.Test.YtdgjplldlfeolaaGreatDoorZ17
import Derived.Test.YtdgjplldlfeolaaGreatDoorZ30
import Derived.Test.YtdgjplldlfeolaaGreatDoorZ28
import Derived.Test.YtdgjplldlfeolaaGreatDoorZ02
import Derived.Test.YtdgjplldlfeolaaGreatDoorZ26
set_option linter.unusedVariables false
set_option linter.unusedSimpArgs false
set_option maxRecDepth 100000
set_option maxHeartbeats 64000000
namespace Go.Proofs.YtdgjplldlfeolaaGreatDoor
open Go.RowKit Go.Sort Go.Maps Go.ChangeMaps Go.WideMaps
theorem Jua:(Tryz.prog.info? 212).map (fun i=>(i.zero,i.size,i.bytes))=some (some (.agg #[.string ⟨#[]⟩,.int .i64 0,.string ⟨#[]⟩,.int .i32 0]),4,48):=by kernel_rfl
theorem Jdy (l:List Ce) (c:Ce):X7 (l ++ [c])=X7 l ++ [.string c.name,.int .i64 c.ck,.string c.cn,.int .i32 c.first]:=by unfold X7;simp
theorem Jx1 {P:Program} {k e:TypeId} {q:IntKind} {K:Type} {ok:K->Prop} {kv:K->Value} {kl:K->Lit} {w:World} (ks:Jer P k ok kv kl) {t:TypeId}
  (ht:P.underlying t=some (.map k e)) (he:P.underlying e=some (.int q))
  {b n:Nat} {f:K->Option Int} {c:Nat} {s:K} {i:Int} {x:Value} (hx:x=kv s) (ae:Q3 P k e q ok kl w b n f c) (hn:n<1000000000)
  (hs:ok s) (hi:(Lit.int q i).wf=true) (f':K->Option Int) (db:f' s=some i) (gO:∀y,ok y->y≠s->f' y=f y) :
  ∃w',(Instr.mapUpdate t (.map (some b)) x (.int q i)).run P w = .ok () w'/\Q3 P k e q ok kl w' b (n+1) f' (if (f s).isSome then c else c+1)/\w.grownBy w' (some b):=by
 subst hx;obtain⟨D,h1,h2,hc,h3⟩:=ae;have fR:WideAt.IsKeyLit (kl s):=ks.keyed.key (ks.read s hs);obtain⟨w',eH,h4,h5⟩:=h1.update ks.keyed ht (by unfold maxLen;omega) (ks.read s hs) (plainElem_int he hi)
 exact⟨w',eH,⟨_,h4,h2.put fR _,by rw [Maps.size_put h2,(h3 s hs).1,hc],fun y hy=>by
  by_cases oJ:y=s
  ·subst oJ;rw [has_put_same h2.isMap fR,atKey_put_same h2.isMap fR,db];simp
  ·have aS:kl y≠kl s:=fun h=>oJ (ks.inj y s hy hs h);rw [has_put_other aS,atKey_put_other aS,(h3 y hy).1,(h3 y hy).2,gO y hy oJ];exact⟨rfl,rfl⟩⟩,h5⟩
structure Jd1 (W:World) (M F X bm bx base:Nat) (L:List (Int×ByteArray)) (cs:List Ce) (n:Nat) (v:Value):Prop where
 m:W.cell? ⟨bm,0,none⟩=some (.map (some M))
 x:W.cell? ⟨bx,0,none⟩=some (.pointer (some ⟨X,0,none⟩))
 x6:W.cell? ⟨X,6,none⟩=some v
 x7:W.cell? ⟨X,7,none⟩=some (.map (some F))
 met:∃n f c,Q3 Tryz.prog 81 3 .i64 okC klC W M n f c/\Jdf f L
 flg:∃f c,Q3 Tryz.prog 81 3 .i64 okC klC W F n f c
 own:W.ownsRow base 212 4 v cs.length (X7 cs)
 fz:W.frozen? ⟨X,6,none⟩=false
def Jxp (F X:Nat) (v:Value) (k:Nat):Prop:=k=F\/k=X\/some k=v.ownBlock
theorem Jhd (M F X bm bx base:Nat) (hM:M<base) (hF:F<base) (hX:X<base) (iQ:bm<base) (fk:bx<base) (n1:F≠X) (n2:F≠M) (n3:F≠bm) (n4:F≠bx) (n5:X≠M) (n6:X≠bm) (n7:X≠bx)
  (L:List (Int×ByteArray)) (ck:Int) (cs:ByteArray) (csl:List Ce) (n:Nat) (v:Value) (W:World) (hB:base<=W.heap.size) (st:Jd1 W M F X bm bx base L csl n v) (hc:okC (ck,cs)) (hn:n<=1000000) (hl:csl.length<=1000000) :
  Calls Tryz.prog 131 #[.agg #[.int .i64 ck,.string cs],.pointer (some ⟨bm,0,none⟩),.pointer (some ⟨bx,0,none⟩)] W fun r w'=>r = .returned (.tuple #[])/\(∃v',Jd1 w' M F X bm bx base L (if inC L (ck,cs)=true then csl ++ [Jb6 (ck,cs)] else csl) (n+1) v'/\(v'.ownBlock=v.ownBlock\/∀k,v'.ownBlock=some k->W.heap.size<=k))/\J6 (Jxp F X v) W w':=by
 obtain⟨m0,x0,x6,x7,⟨nM,f,c,fL,hM2⟩,⟨f2,c2,uP⟩,ae,eh⟩:=st;obtain⟨Av,cv,rfl,zD,nL⟩:=Jv ae;unfold maxLen at nL;have dV:=hM2 (ck,cs) hc;have z1:bm<W.heap.size:=by omega
 have z2:bx<W.heap.size:=by omega
 have z3:X<W.heap.size:=by omega
 have z4:M<W.heap.size:=by omega
 have z5:F<W.heap.size:=by omega
 have hlk:=Jcb (w:=W.alloc (.cells #[.int .i64 ck,.string cs] 81)) Jl0 (x:= .agg #[.int .i64 ck,.string cs]) Tryz.underlying227 Tryz.underlying3 (Jxy _) rfl (fL.bel Jb) hc rfl;have wL:=Lib.hid uP;have HME:=Lib.hid fL;have kj:=Lib.hid hM2;generalize (f (ck,cs)).getD 0=r at dV hlk
 cases hb:inC L (ck,cs)
 ·have tr:¬(0:Int)<r:=by rw [hb] at dV;simpa using dV
  clear dV uP fL hM2 hb
  go_enter Tryz.func131,Tryz.ntmps131
  go_wp2_with fail
  go_end0
  have ab:Below W.heap.size W (W.alloc (.cells #[.int .i64 ck,.string cs] 81)):=Jb;exact⟨rfl,⟨_,⟨Ja ab m0,Ja ab x0,Ja ab x6,Ja ab x7,⟨nM,f,c,HME.out.bel ab,kj.out⟩,⟨f2,c2,(wL.out.bel ab).more (by omega)⟩,Jy ae ab,(Jf ab X 6 (block_lt_of_cell x6)).trans eh⟩,.inl rfl⟩,J6.bel ab⟩
 ·have tr:(0:Int)<r:=by rw [hb] at dV;simpa using dV
  clear dV uP fL hM2 hb;have hc64:(Lit.int .i64 (csl.length:Int)).wf=true:=Jok (by unfold I64;omega);have uQ:=Jua
  go_enter Tryz.func131,Tryz.ntmps131
  go_wp2_with fail
  have zF:Q3 Tryz.prog 81 3 .i64 okC klC (W.alloc (.cells #[.int .i64 ck,.string cs] 81)).drew F n f2 c2:=wL.out.bel Jb;obtain⟨w2,cP,cI,aG⟩:=Jx1 Jl0 (x:= .agg #[.int .i64 ck,.string cs]) Tryz.underlying227 Tryz.underlying3 rfl zF (by omega) hc hc64 (Jkb f2 (ck,cs) csl.length) (Jmm _ _ _) (fun y _ hy=>Jkt _ _ _ y hy);have nT:J6 (fun k=>k=F) W w2:=(J6.bel (S:=fun k=>k=F) (Jh (Jc (Below.refl _ _) _))).trans' (J6.grown aG fun k hk=>by injection hk with hk;exact hk.symm);have dH:=aG.size;simp at dH;have b0:=nT.cell (fun h=>n4 h.symm) x0;have b6:=nT.cell (fun h=>n1 h.symm) x6;have b7:=nT.cell (fun h=>n1 h.symm) x7;have bm0:=nT.cell (fun h=>n3 h.symm) m0;have bf:w2.frozen? ⟨X,6,none⟩=false:=(World.frozen?_of_block (a:=⟨X,6,none⟩) (nT.block X z3 (fun h=>n1 h.symm))).trans eh;have jv:∀o u,(W.alloc (.cells #[.int .i64 ck,.string cs] 81)).drew.cell? ⟨W.heap.size,o,none⟩=some u->w2.cell? ⟨W.heap.size,o,none⟩=some u:=fun o u hu=>Jr (aG.block W.heap.size (by simp) (by intro he;injection he with he;omega)) hu;have e0:=jv 0 (.int .i64 ck) (by go_simp);have e1:=jv 1 (.string cs) (by go_simp);have ao:=nT.own (fun b hb he=>by have:=(ae.lt b hb).1;omega) ae;have HM2':=Lib.hid cI;have HKF:=Lib.hid nT;have aq:base<=w2.heap.size:=by omega
  have br:W.heap.size<w2.heap.size:=by omega
  have y2:bx<w2.heap.size:=by omega
  have y3:X<w2.heap.size:=by omega
  have HM:=Lib.hid cI;have HKF:=Lib.hid nT;clear zF cI nT aG jv
  go_region
  clear cP hlk
  go_wp2_with fail
  obtain⟨S,hSd⟩:∃S:World->Prop,S=fun w'=>w'.cell? ⟨bx,0,none⟩=some (.pointer (some ⟨X,0,none⟩))/\w'.cell? ⟨X,6,none⟩=some (.slice Av csl.length cv)/\w'.cell? ⟨W.heap.size,0,none⟩=some (.int .i64 ck)/\w'.cell? ⟨W.heap.size,1,none⟩=some (.string cs):=⟨_,rfl⟩;have ar:S w2.drew:=by rw [hSd];exact⟨b0,b6,e0,e1⟩
  refine Kd S 9 3 (by kernel_rfl) (by rfl) ?_;simp only [List.size_toArray,List.length_cons,List.length_nil,Nat.zero_add,Nat.reduceAdd];rw [hSd] at ar;rw [hSd];clear hSd;refine Ji 0 ar ?_;refine Ji 1 ar ?_;refine Ji 2 ar ?_;refine Ji 3 ar ?_;refine Ji 4 ar ?_;refine Ji 5 ar ?_;refine Ji 6 ar ?_;refine Kb 7 ?_;refine Jj fun K hK=>?_;go_simp;have dr:∀u,(w2.alloc u).drew.cell? ⟨bx,0,none⟩=some (.pointer (some ⟨X,0,none⟩))/\(w2.alloc u).drew.cell? ⟨X,6,none⟩=some (.slice Av csl.length cv)/\(w2.alloc u).drew.cell? ⟨W.heap.size,0,none⟩=some (.int .i64 ck)/\(w2.alloc u).drew.cell? ⟨W.heap.size,1,none⟩=some (.string cs):=fun u=>⟨J4 b0,J4 b6,J4 e0,J4 e1⟩;refine hK _ _ ⟨dr _,?_⟩;clear hK K;refine Kb 8 ?_;refine Ji5 (.tmp 22) (.tmp 25) 178 rfl base 212 _ 4 48 Tryz.underlying178 uQ rfl (by omega) (.slice Av csl.length cv) csl.length (X7 csl) w2.heap.size 1 1 [.string ⟨#[]⟩,.int .i64 ck,.string cs,.int .i32 0] rfl (Kp (Js ao)) rfl rfl (fun j u hj=>by refine(Qo (w:=w2) (c:=#[.string ⟨#[]⟩,.int .i64 ck,.string cs,.int .i32 0]) (t:=212) rfl).trans ?_;simpa using hj) (by simp [Value.oneCell']) (by omega) (by omega) (by simp;omega) ?_;intro v3 w3 aE bJ iM;obtain⟨A3,c3,rfl,hc31,hc32⟩:=Jv aE;have uR:some X≠(Value.slice Av csl.length cv).ownBlock:=fun he=>by have:=(ae.lt X he.symm).1;omega
  have hne4:some bx≠(Value.slice Av csl.length cv).ownBlock:=fun he=>by have:=(ae.lt bx he.symm).1;omega
  have zG:some W.heap.size≠(Value.slice Av csl.length cv).ownBlock:=fun he=>by have:=(ae.lt W.heap.size he.symm).2;omega
  have k0:w3.cell? ⟨bx,0,none⟩=some (.pointer (some ⟨X,0,none⟩)):=Jr (bJ.block bx (by simp;omega) hne4) (dr _).1;have k6:w3.cell? ⟨X,6,none⟩=some (.slice Av csl.length cv):=Jr (bJ.block X (by simp;omega) uR) (dr _).2.1;have kf:w3.frozen? ⟨X,6,none⟩=false:=(World.frozen?_of_block (a:=⟨X,6,none⟩) (bJ.block X (by simp;omega) uR)).trans ((Jf (Jh (Jc (Below.refl _ _) _)) X 6 (by omega)).trans bf);refine⟨⟨k0,k6,Jr (bJ.block W.heap.size (by simp;omega) zG) (dr _).2.2.1,Jr (bJ.block W.heap.size (by simp;omega) zG) (dr _).2.2.2⟩,Kh (by kernel_rfl) ?_⟩
  try simp only [Act.put,sa1,sa2,sa3]
  refine Qx 9 ?_;refine Jj fun K hK=>?_;go_simp;refine hK _ _ ?_;clear hK K
  try simp only [Act.put,sa1,sa2,sa3]
  refine Qx 10 ?_;refine Jj fun K hK=>?_;go_simp;refine hK _ _ ?_;clear hK K
  try simp only [Act.put,sa1,sa2,sa3]
  refine Qx 11 ?_;refine Jj fun K hK=>?_;go_simp;refine hK _ _ ?_;clear hK K
  try simp only [Act.put,sa1,sa2,sa3]
  have lw:∀j,some j=(Value.slice Av csl.length cv).ownBlock->base<=j:=fun j h=>(ae.lt j h.symm).1
  have zH:J6 (fun k=>k=X\/some k=(Value.slice Av csl.length cv).ownBlock) w2 (w3.setCell ⟨X,6,none⟩ (.slice A3 (csl.length+1) c3)):=
   ((J6.bel (S:=fun k=>k=X\/some k=(Value.slice Av csl.length cv).ownBlock) (Jh (Jc (Below.refl w2.heap.size w2) _))).trans' (J6.grown bJ fun k hk=> .inr hk.symm)).setCell (.inl rfl) _ _
  have wd:J6 (Jxp F X (.slice Av csl.length cv)) W (w3.setCell ⟨X,6,none⟩ (.slice A3 (csl.length+1) c3)):=
   (HKF.out.less fun k _ hk=> .inl hk).trans zH fun k _ hk=>by
    rcases hk with hk|hk
    ·exact .inr (.inl hk)
    ·exact .inr (.inr hk)
  have iE:Jd1 (w3.setCell ⟨X,6,none⟩ (.slice A3 (csl.length+1) c3)) M F X bm bx base L (csl ++ [Jb6 (ck,cs)]) (n+1) (.slice A3 (csl.length+1) c3):=by
   refine⟨zH.cell (fun h=>by rcases h with h|h;exact absurd h (by omega);have:=lw _ h;omega) bm0,zH.cell (fun h=>by rcases h with h|h;exact absurd h (by omega);have:=lw _ h;omega) b0,World.cell?_setCell_same _ _ _ k6,?_,?_,?_,?_,?_⟩
   ·exact(World.cell?_setCell_other _ _ _ _ (by intro he;injection he with e1 e2;exact absurd e2 (by decide))).trans (Jr (bJ.block X (by simp;omega) uR) (Zw (J4 b7)))
   ·exact⟨nM,f,c,HME.out.keep1 (wd.block M z4 (fun h=>by rcases h with h|h|h;exact absurd h (by omega);exact absurd h (by omega);have:=lw _ h;omega)),kj.out⟩
   ·exact⟨_,_,HM.out.keep1 (zH.block F (by omega) (fun h=>by rcases h with h|h;exact absurd h (by omega);have:=lw _ h;omega))⟩
   ·rw [Jdy,List.length_append];exact Kn aE (fun b hb he=>by have:=(aE.lt b hb).1;omega) _ _
   ·rw [World.frozen?_setCell];exact kf
  have zI:(Value.slice A3 (csl.length+1) c3).ownBlock=(Value.slice Av csl.length cv).ownBlock\/∀k,(Value.slice A3 (csl.length+1) c3).ownBlock=some k->W.heap.size<=k:=iM.imp id (fun h k hk=>by have:=h k hk;simp at this;omega);have pY:=Lib.hid iE;have HK1:=Lib.hid wd;have HV3:=Lib.hid zI;clear wd zH iE zI;refine Ki (by kernel_rfl) ?_
  go_wp2_with fail
  go_end0
  exact⟨rfl,⟨_,pY.out,HV3.out⟩,HK1.out⟩
theorem Jd1.later {W W':World} {M F X bm bx base:Nat} {L:List (Int×ByteArray)} {cs:List Ce} {n:Nat} {v:Value} (h:Jd1 W M F X bm bx base L cs n v) (hb:Below W.heap.size W W'):Jd1 W' M F X bm bx base L cs n v:=by
 obtain⟨m0,x0,x6,x7,⟨a,b,c,hm,hM⟩,⟨d,e,hf⟩,ae,eh⟩:=h;exact⟨Ja hb m0,Ja hb x0,Ja hb x6,Ja hb x7,⟨a,b,c,hm.bel hb,hM⟩,⟨d,e,hf.bel hb⟩,Jy ae hb,(Jf hb X 6 (block_lt_of_cell x6)).trans eh⟩
theorem Jc1 (m:List (Int×ByteArray)) (l:List (Int×ByteArray)) (c:Int×ByteArray):Kaq m (l ++ [c])=if inC m c=true then Kaq m l ++ [Jb6 c] else Kaq m l:=by
 unfold Kaq;rw [List.filter_append,List.map_append,List.filter_cons]
 cases h:inC m c <;> simp
theorem Jnf {L:List Va} {k:Nat} {x:Va} (h:L[k]?=some x):X3 (L.take (k+1))=X3 (L.take k) ++ [(1,x.name)] ++ [(2,x.name)]:=by
 obtain⟨am,hx⟩:=List.getElem?_eq_some_iff.1 h;have e:L.take (k+1)=L.take k ++ [x]:=by rw [List.take_succ_eq_append_getElem am,hx]
 rw [e];unfold X3;simp
end Go.Proofs.YtdgjplldlfeolaaGreatDoor
namespace Go.Proofs.YtdgjplldlfeolaaGreatDoor
open Go.RowKit
section
variable (sl:ByteArray->Int) (fl:Int×ByteArray->Int) (L:List Va)
theorem Jis (v:Va):∀(l:List Va) (i:Nat),Yh sl i (l ++ [v])=Yh sl i l ++ [(6,((i+l.length:Nat):Int)),(3,sl v.name)]
 | [],i=>by simp [Yh]
 | u :: l,i=>by rw [List.cons_append,Yh,Yh,Jis v l (i+1),List.length_cons,List.append_assoc,show i+1+l.length=i+(l.length+1) from by omega]
theorem Jnd (q:Qe):∀(l:List Qe) (i:Nat),Zx sl i (l ++ [q])=Zx sl i l ++ [(4,((i+l.length:Nat):Int)),(3,sl q.name)]
 | [],i=>by simp [Zx]
 | u :: l,i=>by rw [List.cons_append,Zx,Zx,Jnd q l (i+1),List.length_cons,List.append_assoc,show i+1+l.length=i+(l.length+1) from by omega]
theorem Jmv (q:Qe):∀(l:List Qe) (i:Nat),Zu sl fl L i (l ++ [q])=Zu sl fl L i l ++ Qk sl (J9 L q.name) (q.e.gen sl fl (J9 L q.name) ++ [(5,((i+l.length:Nat):Int))])
 | [],i=>by simp [Zu]
 | u :: l,i=>by rw [List.cons_append,Zu,Zu,Jmv q l (i+1),List.length_cons,List.append_assoc,show i+1+l.length=i+(l.length+1) from by omega]
theorem Jnj (c:Ce):∀(l:List Ce) (i:Nat),Ze sl i (l ++ [c])=Ze sl i l ++ Qk sl (c.ck,c.cn) [(1,1),(5,((i+l.length:Nat):Int))]
 | [],i=>by simp [Ze]
 | u :: l,i=>by rw [List.cons_append,Ze,Ze,Jnj c l (i+1),List.length_cons,List.append_assoc,show i+1+l.length=i+(l.length+1) from by omega]
theorem Jhy (v:Va):∀(l:List Va) (i:Nat),Xl sl i (l ++ [v])=Xl sl i l ++ [(2,sl v.name),(7,((i+l.length:Nat):Int))]
 | [],i=>by simp [Xl]
 | u :: l,i=>by rw [List.cons_append,Xl,Xl,Jhy v l (i+1),List.length_cons,List.append_assoc,show i+1+l.length=i+(l.length+1) from by omega]
theorem Jif (eqs:List Qe) (j:Int):∀l:List Int,Xd sl fl L eqs (l ++ [j])=Xd sl fl L eqs l ++ Xd sl fl L eqs [j]
 | []=>by simp [Xd]
 | u :: l=>by
   rw [List.cons_append,Xd,Jif eqs j l];conv=>rhs;rw [Xd];rw [List.append_assoc]
theorem Jpr (eqs:List Qe) (k:Nat) (q:Qe) (h:eqs[k]?=some q):Xd sl fl L eqs [(k:Int)]=Qk sl (J9 L q.name) (q.e.gen sl fl (J9 L q.name) ++ [(3,sl q.name)]):=by
 rw [Xd,Xd,show((k:Int)).toNat=k from by omega,h,List.append_nil]
theorem Jb0 (c:Int×ByteArray) (x:List (Int×Int)):(Qk sl c x).length<=x.length+3:=by
 unfold Qk
 repeat' split
 all_goals simp
theorem Je4:∀(l:List Va) (i:Nat),(Yh sl i l).length=2 * l.length
 | [],i=>rfl
 | u :: l,i=>by rw [Yh,List.length_append,Je4 l (i+1),List.length_cons];simp;omega
theorem Jkf:∀(l:List Qe) (i:Nat),(Zx sl i l).length=2 * l.length
 | [],i=>rfl
 | u :: l,i=>by rw [Zx,List.length_append,Jkf l (i+1),List.length_cons];simp;omega
theorem Jhh:∀(l:List Va) (i:Nat),(Xl sl i l).length=2 * l.length
 | [],i=>rfl
 | u :: l,i=>by rw [Xl,List.length_append,Jhh l (i+1),List.length_cons];simp;omega
theorem Jko:∀(l:List Qe) (i:Nat),(∀q∈l,∀c,(q.e.gen sl fl c).length<=360)->(Zu sl fl L i l).length<=364 * l.length
 | [],i,_=>by simp [Zu]
 | u :: l,i,h=>by
  have h1:=Jko l (i+1) fun q hq=>h q (by simp [hq]);have h2:=Jb0 sl (J9 L u.name) (u.e.gen sl fl (J9 L u.name) ++ [(5,(i:Int))]);have h3:=h u (by simp) (J9 L u.name);rw [Zu,List.length_append,List.length_cons];simp only [List.length_append,List.length_cons,List.length_nil] at h2;omega
theorem Jkc:∀(l:List Ce) (i:Nat),(Ze sl i l).length<=5 * l.length
 | [],i=>by simp [Ze]
 | u :: l,i=>by
  have h1:=Jkc l (i+1);have h2:=Jb0 sl (u.ck,u.cn) [(1,1),(5,(i:Int))];rw [Ze,List.length_append,List.length_cons];simp only [List.length_cons,List.length_nil] at h2;omega
theorem Jhf (eqs:List Qe) (h:∀q∈eqs,∀c,(q.e.gen sl fl c).length<=360):∀l:List Int,(Xd sl fl L eqs l).length<=364 * l.length
 | []=>by simp [Xd]
 | j :: l=>by
  have h1:=Jhf eqs h l;rw [Xd,List.length_append,List.length_cons]
  cases hq:eqs[j.toNat]? with
  | none=>simp;omega
  | some q=>
   have h2:=Jb0 sl (J9 L q.name) (q.e.gen sl fl (J9 L q.name) ++ [(3,sl q.name)]);have h3:=h q (List.mem_of_getElem? hq) (J9 L q.name);simp only [List.length_append,List.length_cons,List.length_nil] at h2;simp only;omega
end
theorem Jo4 (l:List Qe) (q:Qe):J0 (l ++ [q])=J0 l ++ (if (q.delay != 0)=true then [q] else []):=by
 unfold J0;rw [List.filter_append]
 congr 1
 rw [List.filter_cons]
 split <;> simp_all
end Go.Proofs.YtdgjplldlfeolaaGreatDoor
namespace Go.Proofs.YtdgjplldlfeolaaGreatDoor
open Go.RowKit Go.Sort
theorem X2.back {B:Nat} {ts:List Tk} {A:Option Addr} {cap:Nat} {W:World} {st:St} (h:X2 B ts A cap W st) (n:Nat) (b:Bool) (hn:n<=ts.length) :
  X2 B ts A cap (((W.setCell ⟨B,0,none⟩ (.slice A ts.length cap)).setCell ⟨B,1,none⟩ (.int .i64 n)).setCell ⟨B,2,none⟩ (.bool b)) ⟨n,b⟩:=by
 obtain⟨h0,h1,h2⟩:=Jp5 (.slice A ts.length cap) (.int .i64 n) (.bool b) h.c0 h.c1 h.c2;exact⟨h0,h1,h2,(Jev ..).trans h.f1,(Jev ..).trans h.f2,(Jev ..).trans h.f0,Kgw h.toks _ ((((J6.refl (S:=fun b=>b=B) W).setCell (b:=B) rfl _ _).setCell (b:=B) rfl _ _).setCell (b:=B) rfl _ _),hn⟩
theorem X2.posS {B:Nat} {ts:List Tk} {A:Option Addr} {cap:Nat} {W:World} {st:St} (h:X2 B ts A cap W st) (hn:st.pos+1<=ts.length):X2 B ts A cap (W.setCell ⟨B,1,none⟩ (.int .i64 ((st.pos:Int)+1))) ⟨st.pos+1,st.bad⟩:=h.pos _ hn
theorem Kn3 {base b1 c gi:Nat} {w:World} {k n:Int} {nm:ByteArray} {x:Ex} {a:Option Addr} {ca:Nat} {t:TypeId} {v0 v1 v2 v3:Value} (hgi:gi=w.heap.size) (h:Off b1 none w (fun V=>Jt V x a ca)) (hb:base<=b1) (hc:c<b1) (hw:base<=w.heap.size) :
  Off base none ((Kel w c v0 v1 v2 v3).alloc (.cells #[.int .i64 x.kind,.int .i32 x.n,.string x.name,.slice a x.sub.length ca] t)) (fun V=>Jt V (.mk k n nm [x]) (some ⟨gi,0,none⟩) 1):=by
 subst hgi;exact Kk1 h hb hc hw
def Kf4 (B:Nat) (ts:List Tk) (A:Option Addr) (cap:Nat) (W:World) (st:St) (x:Option (Ex×St)) (r:Ending) (W':World):Prop:=
 (match x with
  | none=>r = .returned (.tuple #[exV Ex.zero none 0,.bool false])/\X2 B ts A cap W' st
  | some y=>(∃Ax cx,r = .returned (.tuple #[exV y.1 Ax cx,.bool true])/\Off W.heap.size none W' (fun V=>Jt V y.1 Ax cx))/\X2 B ts A cap W' y.2)/\J6 (fun b=>b=B) W W'
theorem Kmf {B:Nat} {ts:List Tk} {A:Option Addr} {cap:Nat} {st:St} {W:World} (h:X2 B ts A cap W st) (ai:ts.length<=100000) (h0:((Kc7 ts (Kc6 ts st ⟨#[45]⟩)).getD tkZ).kind=2) (am:(Kc6 ts st ⟨#[45]⟩).pos<ts.length) :
  Calls Tryz.prog 42 #[.pointer (some ⟨B,0,none⟩)] W (Kf4 B ts A cap W st (Kem ts st)):=by
 have cm:=h.lt;have nn:=h.le;have aS:W.heap.size≠B:=by omega
 have kp:W.heap.size+1≠B:=by omega
 have aP:=fun W' (h':X2 B ts A cap W' st)=>Kfh h' ⟨#[45]⟩ ai
 have hv:Kem ts st=if Kc5 ts ⟨(Kc6 ts st ⟨#[45]⟩).pos+1,(Kc6 ts st ⟨#[45]⟩).bad⟩ ⟨#[102,98,121]⟩=true then some (if Kc5 ts st ⟨#[45]⟩=true then .mk 4 1 ⟨#[]⟩ [.mk 1 ((Kc7 ts (Kc6 ts st ⟨#[45]⟩)).getD tkZ).n ⟨#[]⟩ []] else .mk 1 ((Kc7 ts (Kc6 ts st ⟨#[45]⟩)).getD tkZ).n ⟨#[]⟩ [],Kc6 ts ⟨(Kc6 ts st ⟨#[45]⟩).pos+1,(Kc6 ts st ⟨#[45]⟩).bad⟩ ⟨#[102,98,121]⟩) else none:=by
  unfold Kem Kfx;rw [if_pos h0]
 rw [hv];clear hv;generalize Kc5 ts st ⟨#[45]⟩=m at aP ⊢;generalize Kc6 ts st ⟨#[45]⟩=st1 at aP h0 am ⊢;have qU:=fun W' (h':X2 B ts A cap W' st1)=>Kej h';generalize (Kc7 ts st1).getD tkZ=t at qU h0 ⊢;generalize (Kc7 ts st1).isSome=o at qU;obtain⟨tk,tx,tn,tp⟩:=t;unfold tkV at qU;dsimp only at qU h0 ⊢;have t2:(tk == 2)=true:=by rw [h0];rfl
 have h00:=h.c0;have h01:=h.c1;have h02:=h.c2;have HP:=Lib.hid h;clear h h0
 cases hf:Kc5 ts ⟨st1.pos+1,st1.bad⟩ ⟨#[102,98,121]⟩
 ·rw [if_neg (by simp)]
  cases m <;>
  ·go_enter Tryz.func42,Tryz.ntmps42
   go_wp2_with (first
    | (go_at_call_of 18 (Value.string ⟨#[45]⟩);go_loud (refine(aP _ ((HP.out.alloc _).alloc _)).mono ?_;rintro r w1 ⟨rfl,ii,cD⟩;have af:=cD.size;(try simp at af);have er:w1.heap.size≠B:=(by omega);have xU:=ii.c1;have ew:=ii.f1;have hBx:=ii.lt))
    | (go_at_call 85;go_loud (refine(qU _ (ii.alloc _)).mono ?_;rintro r w2 ⟨rfl,aq⟩;have gL:=(ii.alloc (.cells #[.int .i64 2,.int .i32 0,.string ⟨#[]⟩,.slice none 0 0] 73)).later aq;have br:=aq.size;(try simp at br);have iJ:=(J6.bel (S:=fun b=>b=B) aq);have dz:=cD.trans' (K2 iJ);have aW:=K1 dz;have bS:=kfz dz;have el:=Jg aq;have mJ:=Jf aq;have dG:W.heap.size<w2.heap.size:=(by omega);have cA:W.heap.size+1<w2.heap.size:=(by omega);have kh:w1.heap.size<w2.heap.size:=(by omega);have uj:B<w2.heap.size:=(by omega)))
    | (go_at_call_of 18 (Value.string ⟨#[102,98,121]⟩);go_loud (have ip:=((gL.beyond4 (c:=w1.heap.size) (by omega) (.int .i64 1) (.int .i32 tn) (.string ⟨#[]⟩) (.slice none 0 0)).posS (by omega)).alloc (.cells #[.int .i64 tk,.string tx,.int .i32 tn,.int .i64 tp] 103);refine(Kdf ip hf ai).mono ?_;rintro r w4 ⟨rfl,bT,iA⟩;have cB:=bT.c0;have jK:=bT.c1;have et:=bT.c2;have jo:=bT.f0;have hfg:=bT.f1;have hfh:=bT.f2;have bn:=(((dz.fresh4 (c:=w1.heap.size) (by simp;omega) _ _ _ _).setCell (b:=B) rfl _ _).alloc _).trans' iA;have hkY:=K2 (K2 bn);have bv:=K1 bn;have hfz4:=kfz bn;have qS:=iA.size;(try simp at qS);have ns:w2.heap.size<w4.heap.size:=(by omega);have us:W.heap.size<w4.heap.size:=(by omega);have va:W.heap.size+1<w4.heap.size:=(by omega);have hy4c:w1.heap.size<w4.heap.size:=(by omega);have gu:B<w4.heap.size:=(by omega);have z0:w4.cell? ⟨W.heap.size,0,none⟩=some (.int .i64 0):=(bv _ _ aS (by simp;omega)).trans (by go_simp);have z1:w4.cell? ⟨W.heap.size,1,none⟩=some (.int .i32 0):=(bv _ _ aS (by simp;omega)).trans (by go_simp);have z2:w4.cell? ⟨W.heap.size,2,none⟩=some (.string ⟨#[]⟩):=(bv _ _ aS (by simp;omega)).trans (by go_simp);have z3:w4.cell? ⟨W.heap.size,3,none⟩=some (.slice none 0 0):=(bv _ _ aS (by simp;omega)).trans (by go_simp))))
   refine bodyPost_ret (v:= .tuple #[exV Ex.zero none 0,.bool false]) (by simp [results,Tryz.results42,go_sem,exV,Ex.zero,Ex.kind,Ex.n,Ex.name,Ex.sub, *]) rfl ?_;exact⟨⟨rfl,Kd0 (bT.back _ _ nn) cm _ _ _ _⟩,Kdp ((((hkY.setCell (b:=B) rfl _ _).setCell (b:=B) rfl _ _).setCell (b:=B) rfl _ _)) (Nat.le_refl _) _ _ _ _⟩
 ·rw [if_pos rfl,Kdu hf]
  cases m
  ·rw [if_neg (by simp)]
   go_enter Tryz.func42,Tryz.ntmps42
   go_wp2_with (first
    | (go_at_call_of 18 (Value.string ⟨#[45]⟩);go_loud (refine(aP _ ((HP.out.alloc _).alloc _)).mono ?_;rintro r w1 ⟨rfl,ii,cD⟩;have af:=cD.size;(try simp at af);have er:w1.heap.size≠B:=(by omega);have xU:=ii.c1;have ew:=ii.f1;have hBx:=ii.lt))
    | (go_at_call 85;go_loud (refine(qU _ (ii.alloc _)).mono ?_;rintro r w2 ⟨rfl,aq⟩;have gL:=(ii.alloc (.cells #[.int .i64 2,.int .i32 0,.string ⟨#[]⟩,.slice none 0 0] 73)).later aq;have br:=aq.size;(try simp at br);have iJ:=(J6.bel (S:=fun b=>b=B) aq);have dz:=cD.trans' (K2 iJ);have aW:=K1 dz;have bS:=kfz dz;have el:=Jg aq;have mJ:=Jf aq;have dG:W.heap.size<w2.heap.size:=(by omega);have cA:W.heap.size+1<w2.heap.size:=(by omega);have kh:w1.heap.size<w2.heap.size:=(by omega);have uj:B<w2.heap.size:=(by omega)))
    | (go_at_call_of 18 (Value.string ⟨#[102,98,121]⟩);go_loud (have ip:=((gL.beyond4 (c:=w1.heap.size) (by omega) (.int .i64 1) (.int .i32 tn) (.string ⟨#[]⟩) (.slice none 0 0)).posS (by omega)).alloc (.cells #[.int .i64 tk,.string tx,.int .i32 tn,.int .i64 tp] 103);refine(Kdr ip hf ai).mono ?_;rintro r w4 ⟨rfl,bT,iA⟩;have cB:=bT.c0;have jK:=bT.c1;have et:=bT.c2;have jo:=bT.f0;have hfg:=bT.f1;have hfh:=bT.f2;have bn:=(((dz.fresh4 (c:=w1.heap.size) (by simp;omega) _ _ _ _).setCell (b:=B) rfl _ _).alloc _).trans' iA;have hkY:=K2 (K2 bn);have g0:w4.cell? ⟨w1.heap.size,0,none⟩=some (.int .i64 1):=(K1 iA _ _ er (by simp;omega)).trans (by go_simp);have g1:w4.cell? ⟨w1.heap.size,1,none⟩=some (.int .i32 tn):=(K1 iA _ _ er (by simp;omega)).trans (by go_simp);have g2:w4.cell? ⟨w1.heap.size,2,none⟩=some (.string ⟨#[]⟩):=(K1 iA _ _ er (by simp;omega)).trans (by go_simp);have g3:w4.cell? ⟨w1.heap.size,3,none⟩=some (.slice none 0 0):=(K1 iA _ _ er (by simp;omega)).trans (by go_simp);have gf:∀o,w4.frozen? ⟨w1.heap.size,o,none⟩=false:=fun o=>(kfz iA _ _ er (by simp;omega)).trans (by go_simp);have bv:=K1 bn;have hfz4:=kfz bn;have qS:=iA.size;(try simp at qS);have ns:w2.heap.size<w4.heap.size:=(by omega);have us:W.heap.size<w4.heap.size:=(by omega);have va:W.heap.size+1<w4.heap.size:=(by omega);have hy4c:w1.heap.size<w4.heap.size:=(by omega);have gu:B<w4.heap.size:=(by omega);have z0:w4.cell? ⟨W.heap.size,0,none⟩=some (.int .i64 0):=(bv _ _ aS (by simp;omega)).trans (by go_simp);have z1:w4.cell? ⟨W.heap.size,1,none⟩=some (.int .i32 0):=(bv _ _ aS (by simp;omega)).trans (by go_simp);have z2:w4.cell? ⟨W.heap.size,2,none⟩=some (.string ⟨#[]⟩):=(bv _ _ aS (by simp;omega)).trans (by go_simp);have z3:w4.cell? ⟨W.heap.size,3,none⟩=some (.slice none 0 0):=(bv _ _ aS (by simp;omega)).trans (by go_simp))))
   refine bodyPost_ret (v:= .tuple #[exV (.mk 1 tn ⟨#[]⟩ []) none 0,.bool true]) (by simp [results,Tryz.results42,go_sem,exV,Ex.kind,Ex.n,Ex.name,Ex.sub, *]) rfl ?_;exact⟨⟨⟨none,0,rfl,Kex _ _ fun V=>Ke2 V (by unfold maxLen;omega)⟩,Kd0 bT cm _ _ _ _⟩,Kdp hkY (Nat.le_refl _) _ _ _ _⟩
  ·rw [if_pos rfl]
   go_enter Tryz.func42,Tryz.ntmps42
   go_wp2_with (first
    | (go_at_call_of 18 (Value.string ⟨#[45]⟩);go_loud (refine(aP _ ((HP.out.alloc _).alloc _)).mono ?_;rintro r w1 ⟨rfl,ii,cD⟩;have af:=cD.size;(try simp at af);have er:w1.heap.size≠B:=(by omega);have xU:=ii.c1;have ew:=ii.f1;have hBx:=ii.lt))
    | (go_at_call 85;go_loud (refine(qU _ (ii.alloc _)).mono ?_;rintro r w2 ⟨rfl,aq⟩;have gL:=(ii.alloc (.cells #[.int .i64 2,.int .i32 0,.string ⟨#[]⟩,.slice none 0 0] 73)).later aq;have br:=aq.size;(try simp at br);have iJ:=(J6.bel (S:=fun b=>b=B) aq);have dz:=cD.trans' (K2 iJ);have aW:=K1 dz;have bS:=kfz dz;have el:=Jg aq;have mJ:=Jf aq;have dG:W.heap.size<w2.heap.size:=(by omega);have cA:W.heap.size+1<w2.heap.size:=(by omega);have kh:w1.heap.size<w2.heap.size:=(by omega);have uj:B<w2.heap.size:=(by omega)))
    | (go_at_call_of 18 (Value.string ⟨#[102,98,121]⟩);go_loud (have ip:=((gL.beyond4 (c:=w1.heap.size) (by omega) (.int .i64 1) (.int .i32 tn) (.string ⟨#[]⟩) (.slice none 0 0)).posS (by omega)).alloc (.cells #[.int .i64 tk,.string tx,.int .i32 tn,.int .i64 tp] 103);refine(Kdr ip hf ai).mono ?_;rintro r w4 ⟨rfl,bT,iA⟩;have cB:=bT.c0;have jK:=bT.c1;have et:=bT.c2;have jo:=bT.f0;have hfg:=bT.f1;have hfh:=bT.f2;have bn:=(((dz.fresh4 (c:=w1.heap.size) (by simp;omega) _ _ _ _).setCell (b:=B) rfl _ _).alloc _).trans' iA;have hkY:=K2 (K2 bn);have g0:w4.cell? ⟨w1.heap.size,0,none⟩=some (.int .i64 1):=(K1 iA _ _ er (by simp;omega)).trans (by go_simp);have g1:w4.cell? ⟨w1.heap.size,1,none⟩=some (.int .i32 tn):=(K1 iA _ _ er (by simp;omega)).trans (by go_simp);have g2:w4.cell? ⟨w1.heap.size,2,none⟩=some (.string ⟨#[]⟩):=(K1 iA _ _ er (by simp;omega)).trans (by go_simp);have g3:w4.cell? ⟨w1.heap.size,3,none⟩=some (.slice none 0 0):=(K1 iA _ _ er (by simp;omega)).trans (by go_simp);have gf:∀o,w4.frozen? ⟨w1.heap.size,o,none⟩=false:=fun o=>(kfz iA _ _ er (by simp;omega)).trans (by go_simp);have bv:=K1 bn;have hfz4:=kfz bn;have qS:=iA.size;(try simp at qS);have ns:w2.heap.size<w4.heap.size:=(by omega);have us:W.heap.size<w4.heap.size:=(by omega);have va:W.heap.size+1<w4.heap.size:=(by omega);have hy4c:w1.heap.size<w4.heap.size:=(by omega);have gu:B<w4.heap.size:=(by omega);have z0:w4.cell? ⟨W.heap.size,0,none⟩=some (.int .i64 0):=(bv _ _ aS (by simp;omega)).trans (by go_simp);have z1:w4.cell? ⟨W.heap.size,1,none⟩=some (.int .i32 0):=(bv _ _ aS (by simp;omega)).trans (by go_simp);have z2:w4.cell? ⟨W.heap.size,2,none⟩=some (.string ⟨#[]⟩):=(bv _ _ aS (by simp;omega)).trans (by go_simp);have z3:w4.cell? ⟨W.heap.size,3,none⟩=some (.slice none 0 0):=(bv _ _ aS (by simp;omega)).trans (by go_simp))))
   refine bodyPost_ret (v:= .tuple #[exV (.mk 4 1 ⟨#[]⟩ [.mk 1 tn ⟨#[]⟩ []]) (some ⟨w4.heap.size,0,none⟩) 1,.bool true]) (by simp [results,Tryz.results42,go_sem,exV,Ex.kind,Ex.n,Ex.name,Ex.sub, *]) rfl ?_;refine⟨⟨⟨some ⟨w4.heap.size,0,none⟩,1,rfl,?_⟩,Kga (Kd0 bT (by omega) _ _ _ _) cm _ _ _ _ _⟩,Kfp (Kdp hkY (by omega) _ _ _ _) (Nat.le_refl _) _ _ _ _ _⟩;exact Kn3 (x:= .mk 1 tn ⟨#[]⟩ []) (a:=none) (ca:=0) (b1:=W.heap.size+1) (by rw [Keq]) (Kex _ _ fun V=>Ke2 V (by unfold maxLen;omega)) (by omega) (by omega) (by rw [Keq];omega)
end Go.Proofs.YtdgjplldlfeolaaGreatDoor
namespace Go.Proofs.YtdgjplldlfeolaaGreatDoor
open Go.RowKit
structure Im where
 ver:Int
 fro:Int
 eld:Int
 fr:Fr
 first:List Int
 step:List (Int×Int)
 move:List (Int×Int)
 sf:Int
 mf:Int
def Fr.zero:Fr:=⟨0,0,0,0,0⟩
def Im.zero:Im:=⟨0,0,0,Fr.zero,[],[],[],0,0⟩
def Jcj (c:List (Int×Int)) (f:Fr) (fuel:Int):Int:=if (Yi c f).2.1=0/\(Yi c f).1.2≠fuel then 14 else(Yi c f).2.1
def Im.moves (m:Im):Fr:=⟨0,m.eld,m.fr.n,0,0⟩
def Im.wrong (m:Im):Int:=
 if m.ver=0\/m.ver<=m.fro\/m.eld<0\/16<m.eld then 1
 else if m.fr.o≠m.fr.n\/(m.first.length:Int)≠m.fr.n then 1
 else if m.fro=0/\(0<m.eld\/0<m.move.length) then 1
 else if Jcj m.step m.fr m.sf≠0 then Jcj m.step m.fr m.sf
 else Jcj m.move m.moves m.mf
def Ju8 (m:Im):List Int:=
 [77,73,68,83] ++ leB 4 m.ver.toNat ++ leB 4 m.fro.toNat ++ leB 1 m.eld.toNat ++ leB 1 m.fr.s.toNat ++ leB 1 m.fr.n.toNat ++ leB 1 m.fr.i.toNat ++ leB 1 m.fr.u.toNat ++ leB 2 m.sf.toNat ++ leB 2 m.mf.toNat
def Jba (m:Im):List Int:=Ju8 m ++ Jcs (Je9 m.first) ++ Jcs (Ja7 m.step) ++ Jcs (Ja7 m.move)
def Jdl (m:Im):List Int×Int:=if m.wrong≠0 then([],m.wrong) else if 2016<(Jba m).length then([],3) else(Jba m,0)
theorem Juv {f:Fr} {n:Nat} : ∀(c:List (Int×Int)) (k:Nat) (ps:List Pl) (dep:Int),Jaa k n dep ps->(goJ f n k c ps dep).2.1=0->
  (∀i∈c,Qj i=0)/\0<=(goJ f n k c ps dep).1.1/\(goJ f n k c ps dep).1.1<=16/\0<=(goJ f n k c ps dep).1.2/\(goJ f n k c ps dep).1.2<=((k+c.length:Nat):Int)
 | [],k,ps,dep,h,h0=>by
  rw [goJ] at h0 ⊢;have hg:=h.get n;have hd:=h.dep0
  split at h0
  ·exact absurd (show(12:Int)=0 from h0) (by decide)
  ·rename_i hz;rw [if_neg hz];exact⟨by simp,hd.1,hd.2,hg.2.2.1,by simpa using hg.2.2.2.1⟩
 | i :: c,k,ps,dep,h,h0=>by
  rw [goJ] at h0 ⊢
  by_cases h1:(Jct f k i ps dep).1≠0
  ·rw [if_pos h1] at h0;exact absurd h0 h1
  ·rw [if_neg h1] at h0 ⊢;have h2:(Jct f k i ps dep).1=0:=by simpa using h1
   obtain⟨g1,g2,g3,g4,g5⟩:=Juv c (k+1) _ _ (h.one h2) h0;refine⟨fun j hj=>?_,g2,g3,g4,by rw [List.length_cons];omega⟩
   rcases List.mem_cons.1 hj with rfl|hj
   ·unfold Jct at h2
    split at h2
    ·exact h2
    ·rename_i hh;simpa using hh
   ·exact g1 j hj
theorem Jt5 {c:List (Int×Int)} {f:Fr} (h:(Yi c f).2.1=0):f.good=true/\c.length<=600/\(∀i∈c,Qj i=0)/\0<=(Yi c f).1.1/\(Yi c f).1.1<=16/\0<=(Yi c f).1.2/\(Yi c f).1.2<=(c.length:Int):=by
 unfold Yi at h ⊢
 by_cases h1:f.good=false
 ·rw [if_pos h1] at h;exact absurd h (by decide)
 ·rw [if_neg h1] at h ⊢
  by_cases h2:600<c.length
  ·rw [if_pos h2] at h;exact absurd h (by decide)
  ·rw [if_neg h2] at h ⊢;obtain⟨g1,g2⟩:=Juv c 0 _ _ (Jaa.start c.length) h;exact⟨by simpa using h1,by omega,g1,by simpa using g2⟩
theorem Fr.good_iff {f:Fr} : f.good=true<->(0<=f.s/\f.s<=24)/\(0<=f.o/\f.o<=16)/\(0<=f.n/\f.n<=16)/\(0<=f.i/\f.i<=8)/\(0<=f.u/\f.u<=8):=by
 unfold Fr.good inB;simp [and_assoc]
structure Im.Right (m:Im):Prop where
 ver:m.ver≠0/\m.fro<m.ver
 eld:0<=m.eld/\m.eld<=16
 fr:m.fr.good=true
 old:m.fr.o=m.fr.n/\(m.first.length:Int)=m.fr.n
 step:m.step.length<=600/\(∀i∈m.step,Qj i=0)/\0<=m.sf/\m.sf<=600
 move:m.move.length<=600/\(∀i∈m.move,Qj i=0)/\0<=m.mf/\m.mf<=600
theorem Jmp {c:List (Int×Int)} {f:Fr} {fuel:Int} (h:Jcj c f fuel=0):f.good=true/\c.length<=600/\(∀i∈c,Qj i=0)/\0<=fuel/\fuel<=600:=by
 unfold Jcj at h
 split at h
 ·exact absurd h (by decide)
 ·rename_i hn;obtain⟨g1,g2,g3,g4,g5,g6,g7⟩:=Jt5 h
  have:(Yi c f).1.2=fuel:=by
   by_cases he:(Yi c f).1.2=fuel
   ·exact he
   ·exact absurd ⟨h,he⟩ hn
  exact⟨g1,g2,g3,by omega,by omega⟩
theorem Im.right {m:Im} (h:m.wrong=0):m.Right:=by
 unfold Im.wrong at h
 split at h
 ·exact absurd h (by decide)
 split at h
 ·exact absurd h (by decide)
 split at h
 ·exact absurd h (by decide)
 split at h
 ·rename_i hn;exact absurd h hn
 ·rename_i h1 h2 h3 h4;obtain⟨a1,a2,a3,a4,a5⟩:=Jmp (by simpa using h4);obtain⟨b1,b2,b3,b4,b5⟩:=Jmp h;exact⟨by omega,by omega,a1,by omega,⟨a2,a3,a4,a5⟩,⟨b2,b3,b4,b5⟩⟩
def Jke (p:Pr):Fr:=⟨(Je p).length,(Jq p).length,(Jq p).length,p.ins.length,p.outs.length⟩
def Jd8 (p:Pr) (v:Int):Im:=⟨v,0,0,Jke p,(Jq p).map (·.first),Xs p,[],(Yi (Xs p) (Jke p)).1.2,0⟩
def imE (p:Pr) (v:Int):Im×(Int×Int×Int):=
 if (Xg p).2.2≠(0,0,0) then(Im.zero,(Xg p).2.2)
 else if v=0 then(Im.zero,(4,0,1))
 else if (Jdl (Jd8 p v)).2≠0 then(Im.zero,(4,0,(Jdl (Jd8 p v)).2))
 else(Jd8 p v,(0,0,0))
end Go.Proofs.YtdgjplldlfeolaaGreatDoor
