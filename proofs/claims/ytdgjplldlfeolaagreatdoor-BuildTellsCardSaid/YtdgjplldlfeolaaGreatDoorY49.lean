/- Lemmas. -/
import Derived.Test.YtdgjplldlfeolaaGreatDoorMac
import Derived.Test.YtdgjplldlfeolaaGreatDoorY47
import Derived.Test.YtdgjplldlfeolaaGreatDoorY43
import Derived.Deep.CutRange
import Derived.RegionTactic
set_option linter.unusedVariables false
set_option linter.unusedSimpArgs false
set_option maxRecDepth 100000
set_option maxHeartbeats 64000000
namespace Go.Proofs.YtdgjplldlfeolaaGreatDoor
open Go.RowKit Go.Sort
theorem Kov {W V:World} (hb:Below (Ko0 W).heap.size (Ko0 W) V) (j:Nat) (u:Value) (hj:Kpa[j]?=some u):V.cell? ⟨W.heap.size,j,none⟩=some u:=
 Ja hb (J4 ((Kw W _ _ j).trans Ma))
theorem Kpb {W V:World} (hb:Below (Ko0 W).heap.size (Ko0 W) V) (j:Nat) (u:Value) (hj:(ftL 0 0 0)[j]?=some u):V.cell? ⟨W.heap.size+1,j,none⟩=some u:=
 Ja hb ((Kmc _ _ _ Uh j).trans Ma)
theorem Kp9 {W V:World} (hb:Below (Ko0 W).heap.size (Ko0 W) V):W.heap.size<V.heap.size:=by have:=hb.size;rw [Kpi] at this;omega
theorem Kp8 {W V:World} (hb:Below (Ko0 W).heap.size (Ko0 W) V):W.heap.size+1<V.heap.size:=by have:=hb.size;rw [Kpi] at this;omega
theorem Kqa {W V:World} (hb:Below (Ko0 W).heap.size (Ko0 W) V) (o:Nat):V.frozen? ⟨W.heap.size,o,none⟩=false:=(Jf hb _ _ (by rw [Kpi];omega)).trans (by unfold Ko0;go_simp)
theorem Kqc {W V:World} (hb:Below (Ko0 W).heap.size (Ko0 W) V) (o:Nat):V.frozen? ⟨W.heap.size+1,o,none⟩=false:=(Jf hb _ _ (by rw [Kpi];omega)).trans (by unfold Ko0;go_simp)
theorem Ktr (w:World) (o:Obj) (k1 k2 k3:Int) (t:TypeId):Khq ((w.alloc o).alloc (.cells #[.int .i64 k1,.int .i64 k2,.int .i64 k3] t)) (w.heap.size+1)/\Kpf ((w.alloc o).alloc (.cells #[.int .i64 k1,.int .i64 k2,.int .i64 k3] t)) (w.heap.size+1):=by
 have h1:=Khq.new (w.alloc o) [.int .i64 k1,.int .i64 k2,.int .i64 k3] t Uh
 have h2:=Kpf.new (w.alloc o) [.int .i64 k1,.int .i64 k2,.int .i64 k3] t (fun o s k h=>by
  have:=Ni h;simp at this)
 rw [show(w.alloc o).heap.size=w.heap.size+1 by simp] at h1 h2;exact⟨h1,h2⟩
theorem Kqo {g base:Nat} {w W':World} (h:Aft g base w W') (u0 u1 u2:Value):Aft g base w (((W'.setCell ⟨g,0,none⟩ u0).setCell ⟨g,1,none⟩ u1).setCell ⟨g,2,none⟩ u2):=
 ((h.setCell (b:=g) (.inl rfl) _ _).setCell (b:=g) (.inl rfl) _ _).setCell (b:=g) (.inl rfl) _ _
theorem Kt1 (w:World) (c c':Array Value) (t:TypeId) (o:Obj):((w.alloc (.cells c t)).alloc o).setRow w.heap.size c'=(w.alloc (.cells c' t)).alloc o:=by
 simp only [World.setRow,World.alloc]
 congr 1
 apply Array.ext_getElem?;intro i;rw [Array.getElem?_modify]
 by_cases h:w.heap.size=i
 ·subst h;simp [Array.getElem?_push]
 ·have h':¬i=w.heap.size:=fun e=>h e.symm;simp [h,h',Array.getElem?_push]
theorem Kt2 (w:World) (c c':Array Value) (t:TypeId):(w.alloc (.cells c t)).setRow w.heap.size c'=w.alloc (.cells c' t):=by
 simp only [World.setRow,World.alloc]
 congr 1
 apply Array.ext_getElem?;intro i;rw [Array.getElem?_modify]
 by_cases h:w.heap.size=i
 ·subst h;exact Uh
 ·have h':¬i=w.heap.size:=fun e=>h e.symm;simp [h,h',Array.getElem?_push]
theorem Kt0 (w:World) (o:Obj):(w.alloc o).heap[w.heap.size]?=some o:=by
 show(w.heap.push o)[w.heap.size]?=some o;simp
theorem Kt6 (c:Array Value) (hc:c.size=18) (h1:c.all (·.oneCell')=true) (w:World) :
  (storeCells ⟨w.heap.size,0,none⟩ c.toList 0).run Tryz.prog (w.alloc (.cells #[.string ⟨#[]⟩,.slice none 0 0,.slice none 0 0,.slice none 0 0,.slice none 0 0,.int .u32 0,.int .u32 0,.int .i64 0,.int .i64 0,.int .i64 0,.int .i64 0,.int .i64 0,.int .i64 0,.slice none 0 0,.slice none 0 0,.slice none 0 0,.int .i64 0,.int .i64 0] 57)) = .ok () (w.alloc (.cells c 57)):=by
 rw [run_storeCells_from (P:=Tryz.prog) w.heap.size 57 c.toList 0 #[.string ⟨#[]⟩,.slice none 0 0,.slice none 0 0,.slice none 0 0,.slice none 0 0,.int .u32 0,.int .u32 0,.int .i64 0,.int .i64 0,.int .i64 0,.int .i64 0,.int .i64 0,.int .i64 0,.slice none 0 0,.slice none 0 0,.slice none 0 0,.int .i64 0,.int .i64 0] _ (Kt0 w _) (by simp [hc]) (fun v hv=>(Array.all_eq_true_iff_forall_mem.1 h1) v (by simpa using hv))];simp only [List.take_zero,List.nil_append,Array.toArray_toList,Kt2]
theorem Kt5 (c:Array Value) (hc:c.size=18) (h1:c.all (·.oneCell')=true) (w:World) (o:Obj) :
  (storeCells ⟨w.heap.size,0,none⟩ c.toList 0).run Tryz.prog ((w.alloc (.cells #[.string ⟨#[]⟩,.slice none 0 0,.slice none 0 0,.slice none 0 0,.slice none 0 0,.int .u32 0,.int .u32 0,.int .i64 0,.int .i64 0,.int .i64 0,.int .i64 0,.int .i64 0,.int .i64 0,.slice none 0 0,.slice none 0 0,.slice none 0 0,.int .i64 0,.int .i64 0] 57)).alloc o) = .ok () ((w.alloc (.cells c 57)).alloc o):=by
 rw [run_storeCells_from (P:=Tryz.prog) w.heap.size 57 c.toList 0 #[.string ⟨#[]⟩,.slice none 0 0,.slice none 0 0,.slice none 0 0,.slice none 0 0,.int .u32 0,.int .u32 0,.int .i64 0,.int .i64 0,.int .i64 0,.int .i64 0,.int .i64 0,.int .i64 0,.slice none 0 0,.slice none 0 0,.slice none 0 0,.int .i64 0,.int .i64 0] _ ((heap_alloc_old _ _ Uh).trans (Kt0 w _)) (by simp [hc]) (fun v hv=>(Array.all_eq_true_iff_forall_mem.1 h1) v (by simpa using hv))];simp only [List.take_zero,List.nil_append,Array.toArray_toList,Kt1]
theorem J3 {w V:World} {c:Array Value} {t:TypeId} {o:Obj} {L:List Value} (hV:V=(w.alloc (.cells c t)).alloc o) (hc:c=L.toArray) (j:Nat) (u:Value) (hj:L[j]?=some u):V.cell? ⟨w.heap.size,j,none⟩=some u:=by
 subst hV hc;exact J4 ((Kw w _ _ j).trans Ma)
theorem Ktz {w V:World} {b:Nat} {c:Array Value} {t:TypeId} {L:List Value} (hV:V=w.alloc (.cells c t)) (hz:w.heap.size=b) (hc:c=L.toArray) (j:Nat) (u:Value) (hj:L[j]?=some u):V.cell? ⟨b,j,none⟩=some u:=by
 subst hV hc hz;exact(Kw w _ _ j).trans Ma
def RdV (W:World) (v:Int) (r:Ending) (W':World):Prop:=
 (∃(c:Array Value) (nm:ByteArray) (B1:Option Addr) (l1 d1:Nat) (B2:Option Addr) (l2 d2:Nat) (B3:Option Addr) (l3 d3:Nat) (B4:Option Addr) (l4 d4:Nat) (m:Im) (ia:ImA) (k1 k2 k3:Int),r = .returned (.tuple #[.agg c,.agg #[.int .i64 k1,.int .i64 k2,.int .i64 k3]])/\c.size=18/\
  Hid (c=List.toArray [.string nm,.slice B1 l1 d1,.slice B2 l2 d2,.slice B3 l3 d3,.slice B4 l4 d4,.int .u32 m.ver,.int .u32 m.fro,.int .i64 m.eld,.int .i64 m.fr.s,.int .i64 m.fr.o,.int .i64 m.fr.n,.int .i64 m.fr.i,.int .i64 m.fr.u,.slice ia.A1 m.first.length ia.c1,.slice ia.A2 m.step.length ia.c2,.slice ia.A3 m.move.length ia.c3,.int .i64 m.sf,.int .i64 m.mf])/\
  (∀(w:World),(storeCells ⟨w.heap.size,0,none⟩ c.toList 0).run Tryz.prog (w.alloc (.cells #[.string ⟨#[]⟩,.slice none 0 0,.slice none 0 0,.slice none 0 0,.slice none 0 0,.int .u32 0,.int .u32 0,.int .i64 0,.int .i64 0,.int .i64 0,.int .i64 0,.int .i64 0,.int .i64 0,.slice none 0 0,.slice none 0 0,.slice none 0 0,.int .i64 0,.int .i64 0] 57)) = .ok () (w.alloc (.cells c 57)))/\
  (∀(w:World) (o:Obj),(storeCells ⟨w.heap.size,0,none⟩ c.toList 0).run Tryz.prog ((w.alloc (.cells #[.string ⟨#[]⟩,.slice none 0 0,.slice none 0 0,.slice none 0 0,.slice none 0 0,.int .u32 0,.int .u32 0,.int .i64 0,.int .i64 0,.int .i64 0,.int .i64 0,.int .i64 0,.int .i64 0,.slice none 0 0,.slice none 0 0,.slice none 0 0,.int .i64 0,.int .i64 0] 57)).alloc o) = .ok () ((w.alloc (.cells c 57)).alloc o))/\
  Hid (k3=0->k1=0/\k2=0/\∃p:Pr,nm=p.name/\l1=p.ins.length/\l2=p.outs.length/\l3=p.locals.length/\l4=p.eqs.length/\J1 p/\Jsj m/\m.ver=v/\Jd5 W' m ia/\Kr W' p ⟨B1,d1,B2,d2,B3,d3,B4,d4⟩))/\Below W.heap.size W W'
theorem Kt3 (s:ByteArray) (v:Int) (W:World) (hs:s.size<=maxLen) (hg:Ql W) (hv:0<=v/\v<4294967296):Calls Tryz.prog 15 #[.string s,.int .u32 v] W (RdV W v):=by
 refine(Kqt s v W hs hg hv).mono ?_;rintro r W' ⟨⟨nm,B1,l1,d1,B2,l2,d2,B3,l3,d3,B4,l4,d4,m,ia,k1,k2,k3,rfl,h⟩,hb⟩;exact⟨⟨_,nm,B1,l1,d1,B2,l2,d2,B3,l3,d3,B4,l4,d4,m,ia,k1,k2,k3,rfl,rfl,Nf rfl,Kt6 _ rfl Vg,Kt5 _ rfl Vg,h⟩,hb⟩
theorem Kt4 (x:Tmp) {g:Nat} {cs:Array Value} {ops:Array Oper} {rest:List Oper} {d:Option Tmp} {typ:TypeId} {pos:String} {after} {a:Act} {w:World} {Q:Exit->Act->World->Prop}
  (hx:a.eval (.tmp x) = .pointer (some ⟨g,0,none⟩)) (hg:w.heap[g]?=some (.cells cs 57)) (hs:cs.size=18) (h:wpList Tryz.prog ops Q rest (a.put d (.agg cs)) w) :
  wpList Tryz.prog ops Q ({dst:=d,op:= .load 57 (.tmp x),type:=typ,pos:=pos,after:=after,guard:=none} :: rest) a w:=
 wpList_load_row rfl 57 (.tmp x) rfl g hx 57 cs (0,0) _ hg Tryz.underlying57 rfl ((show(Tryz.prog.info? 57).map (·.size)=some 18 by kernel_rfl).trans (by rw [hs])) h
structure UpS (V3 wx:World) (z:Nat) (L:List Value):Prop where
 bel:Below V3.heap.size V3 wx
 lt:z<wx.heap.size
 cells:∀(j:Nat) (u:Value),L[j]?=some u->wx.cell? ⟨z,j,none⟩=some u
 fz:∀o,wx.frozen? ⟨z,o,none⟩=false
theorem UpS.new (V3:World) (L:List Value) (t:TypeId):UpS V3 (V3.alloc (.cells L.toArray t)) V3.heap.size L:=
 ⟨Jc (Nt) _,Uh,fun j u hj=>(Kw V3 _ _ j).trans Ma,fun o=>Uc⟩
theorem UpS.later {V3 wx w':World} {z:Nat} {L:List Value} (h:UpS V3 wx z L) (hb:Below wx.heap.size wx w'):UpS V3 w' z L:=
 ⟨Jd h.bel hb,Nr h.lt hb.size,fun j u hj=>Ja hb (h.cells j u hj),fun o=>(Jf hb _ o h.lt).trans (h.fz o)⟩
theorem UpS.set {V3 wx:World} {z:Nat} {L:List Value} (h:UpS V3 wx z L) (hz:V3.heap.size<=z) (i:Nat) (hi:i<L.length) (u:Value):UpS V3 (wx.setCell ⟨z,i,none⟩ u) z (L.set i u):=by
 refine⟨h.bel.setCell hz _,by simpa using h.lt,fun j v hj=>?_,fun o=>(World.frozen?_setCell ..).trans (h.fz o)⟩
 by_cases jO:j=i
 ·subst jO;rw [List.getElem?_set_self hi] at hj;obtain rfl:u=v:=Ma;exact Nx _ _ _ (h.cells j _ (Ng hi))
 ·rw [List.getElem?_set_ne (fun he=>jO he.symm)] at hj;exact(J5 _ _ _ _ _ jO).trans (h.cells j v hj)
theorem UpS.drew {V3 wx:World} {z:Nat} {L:List Value} (h:UpS V3 wx z L):UpS V3 wx.drew z L:=h.later (Jh (Nt))
theorem Kty {m:Im} (h:(Jdl m).2=0):m.wrong=0/\¬2016<(Jba m).length:=by
 unfold Jdl at h
 by_cases h1:m.wrong≠0
 ·rw [if_pos h1] at h;exact absurd h h1
 ·rw [if_neg h1] at h
  by_cases h2:2016<(Jba m).length
  ·rw [if_pos h2] at h;simp at h
  ·exact⟨Lk,h2⟩
theorem Kqw (s0 s1 s2:ByteArray) (fro ver:Int) (W:World) (h0:s0.size<=maxLen) (h1:s1.size<=maxLen) (h2:s2.size<=maxLen) (hg:Ql W) (hf:0<=fro/\fro<4294967296) (hv:0<=ver/\ver<4294967296) :
  Calls Tryz.prog 11 #[.string s0,.string s1,.string s2,.int .u32 fro,.int .u32 ver] W (UpR fro ver W):=by
 have fF:=fun w (h:Below W.heap.size W w)=>Kt3 s0 fro w h0 (hg.later h) hf;have fa:=fun w (h:Below W.heap.size W w)=>Kt3 s1 ver w h1 (hg.later h) hv;have hmv:=fun(p q:Pr) (a b:PrA) (m1 m2:Im) (i1 i2:ImA) w (h:Below W.heap.size W w)=>Krd s2 p q a b m1 m2 i1 i2 w h2 (hg.later h);unfold RdV at fF fa;unfold srP srV Ktn at hmv;have pS:=Nf fF;have sN:=Nf fa;have HMV:=Nf hmv;have HF:=Nf hf;clear fF fa hmv hg h0 h1 h2 hf hv
 go_enter Tryz.func11,Tryz.ntmps11
 go_upto_region 2 with (go_at_call 15;go_loud (refine(pS.out _ Jb).mono ?_;rintro r w1 ⟨⟨ca,nm,B1,l1,d1,B2,l2,d2,B3,l3,d3,B4,l4,d4,m1,⟨I1,j1,I2,j2,I3,j3⟩,k1,k2,k3,rfl,rT,aW,hst1,hst1',hres1⟩,ac⟩))
 refine Jo fun V1 dq=>?_;have eM:Below (Ko0 W).heap.size (Ko0 W) w1:=ac;have fk:=Nd w1 V1 G0;have hb01:Below (Ko0 W).heap.size (Ko0 W) V1:=Jd eM fk;have gB:=Nd W V1 (Jd (Kp3 W) hb01);have qW:Khq V1 (w1.heap.size+1)/\Kpf V1 (w1.heap.size+1):=by rw [dq];exact Ktr _ _ _ _ _ _
 have af:(Ko0 W).heap.size<=w1.heap.size:=eM.size;have hz12:W.heap.size+2<=w1.heap.size:=by rw [Kpi] at af;exact af
 have ne1:w1.heap.size+1≠W.heap.size:=Ua;have ne2:W.heap.size≠w1.heap.size+1:=Ua;have ne3:w1.heap.size≠W.heap.size:=Ua;have ne4:W.heap.size≠w1.heap.size:=Ua;have hzV1:V1.heap.size=w1.heap.size+1+1:=Td;have a0:=Nb V1 w1.heap.size 0 (.string nm) (J3 dq aW.out 0 _ rfl);have a1:=Nb V1 w1.heap.size 1 (.slice B1 l1 d1) (J3 dq aW.out 1 _ rfl);have a2:=Nb V1 w1.heap.size 2 (.slice B2 l2 d2) (J3 dq aW.out 2 _ rfl);have a3:=Nb V1 w1.heap.size 3 (.slice B3 l3 d3) (J3 dq aW.out 3 _ rfl);have a4:=Nb V1 w1.heap.size 4 (.slice B4 l4 d4) (J3 dq aW.out 4 _ rfl);have a5:=Nb V1 w1.heap.size 5 (.int .u32 m1.ver) (J3 dq aW.out 5 _ rfl);have a6:=Nb V1 w1.heap.size 6 (.int .u32 m1.fro) (J3 dq aW.out 6 _ rfl);have a7:=Na V1 w1.heap.size 7 m1.eld (J3 dq aW.out 7 _ rfl);have a8:=Na V1 w1.heap.size 8 m1.fr.s (J3 dq aW.out 8 _ rfl);have a9:=Na V1 w1.heap.size 9 m1.fr.o (J3 dq aW.out 9 _ rfl);have a10:=Na V1 w1.heap.size 10 m1.fr.n (J3 dq aW.out 10 _ rfl);have a11:=Na V1 w1.heap.size 11 m1.fr.i (J3 dq aW.out 11 _ rfl);have a12:=Na V1 w1.heap.size 12 m1.fr.u (J3 dq aW.out 12 _ rfl);have a13:=Nb V1 w1.heap.size 13 (.slice I1 m1.first.length j1) (J3 dq aW.out 13 _ rfl);have a14:=Nb V1 w1.heap.size 14 (.slice I2 m1.step.length j2) (J3 dq aW.out 14 _ rfl);have a15:=Nb V1 w1.heap.size 15 (.slice I3 m1.move.length j3) (J3 dq aW.out 15 _ rfl);have a16:=Na V1 w1.heap.size 16 m1.sf (J3 dq aW.out 16 _ rfl);have a17:=Na V1 w1.heap.size 17 m1.mf (J3 dq aW.out 17 _ rfl);have f0:=Na V1 (w1.heap.size+1) 0 k1 Uy;have f1:=Na V1 (w1.heap.size+1) 1 k2 Uy;have f2:=Na V1 (w1.heap.size+1) 2 k3 Uy;have cT:V1.heap[w1.heap.size]?=some (.cells ca 57):=by rw [dq,heap_alloc_old _ _ Uh,Kt0]
 have ff:∀o,V1.frozen? ⟨w1.heap.size+1,o,none⟩=false:=fun o=>Uy;have hla:=lt0 w1 V1;have hlf:=ltA w1 1 V1;clear dq ac eM hst1 hst1'
 by_cases dU:k3=0
 case neg=>
  have hki:(k3 != 0)=true:=by simpa using dU
  clear hres1 pS sN HMV cT aW rT;have yy0:=Nb V1 W.heap.size 0 (.int .u32 0) (Kov hb01 0 _ rfl);have yy1:=Nb V1 W.heap.size 1 (.int .u32 0) (Kov hb01 1 _ rfl);have yy2:=Na V1 W.heap.size 2 0 (Kov hb01 2 _ rfl);have yy3:=Na V1 W.heap.size 3 0 (Kov hb01 3 _ rfl);have yy4:=Na V1 W.heap.size 4 0 (Kov hb01 4 _ rfl);have yy5:=Na V1 W.heap.size 5 0 (Kov hb01 5 _ rfl);have yy6:=Na V1 W.heap.size 6 0 (Kov hb01 6 _ rfl);have yy7:=Na V1 W.heap.size 7 0 (Kov hb01 7 _ rfl);have yy8:=Nb V1 W.heap.size 8 (.slice none 0 0) (Kov hb01 8 _ rfl);have yy9:=Nb V1 W.heap.size 9 (.slice none 0 0) (Kov hb01 9 _ rfl);have yy10:=Nb V1 W.heap.size 10 (.slice none 0 0) (Kov hb01 10 _ rfl);have yy11:=Na V1 W.heap.size 11 0 (Kov hb01 11 _ rfl);have yy12:=Na V1 W.heap.size 12 0 (Kov hb01 12 _ rfl);have zz0:=Na V1 (W.heap.size+1) 0 0 (Kpb hb01 0 _ rfl);have zz1:=Na V1 (W.heap.size+1) 1 0 (Kpb hb01 1 _ rfl);have zz2:=Na V1 (W.heap.size+1) 2 0 (Kpb hb01 2 _ rfl);have yyf:∀o,V1.frozen? ⟨W.heap.size,o,none⟩=false:=fun o=>Kqa hb01 o;have zzf:∀o,V1.frozen? ⟨W.heap.size+1,o,none⟩=false:=fun o=>Kqc hb01 o;have ylt:W.heap.size<V1.heap.size:=Kp9 hb01;have zlt:W.heap.size+1<V1.heap.size:=Kp8 hb01
  go_upto_region 3 with (fail)
  go_region
  all_goals
   go_wp2_with fail
   refine Zc fun F hF=>?_;obtain⟨hz,hy,hR⟩:=UpR.fault (fro:=fro) (ver:=ver) (k:=1) hb01 (.inr hF) dU ⟨Ug,Ug⟩;clear hF;exact Nv (v:= .tuple #[.agg (imL Im.zero ⟨none,0,none,0,none,0⟩).toArray,.int .i64 1,.agg (ftL k1 k2 k3).toArray]) (Kpr rfl (imL Im.zero ⟨none,0,none,0,none,0⟩) (ftL k1 k2 k3) rfl rfl rfl Ue Ue Ue Ue hz hy) rfl hR
 obtain⟨rfl,rfl,p,rfl,rfl,rfl,rfl,rfl,fp,okp,hver1,him1,hpr1⟩:=hres1.out dU;subst dU;have ku:=Nf hver1;have HN:=Nf qW;have HFP:=Nf fp;have HP1:=Nf (hpr1.later fk);have HB01:=Nf hb01;have HBW1:=Nf gB;clear qW fp hpr1 hb01 gB him1 hres1 fk pS okp hver1
 go_upto_region 5 with (go_at_call 15;go_loud (refine(sN.out _ HBW1.out).mono ?_;rintro r w2 ⟨⟨cb,nm',D1,n1,e1,D2,n2,e2,D3,n3,e3,D4,n4,e4,m2,⟨Sj1,g1,Sj2,g2,Sj3,g3⟩,x1,x2,x3,rfl,hsz2,el,hst2,hst2',hres2⟩,aq⟩;have br:=aq.size;have jo:=fun o=>(Jf aq _ o hlf).trans (ff o);have hlf2:=ltA w1 1 w2;have hla2:=lt0 w1 w2;have f0':=Ja aq f0;have f1':=Ja aq f1;have f2':=Ja aq f2))
 refine Jo fun V2 bz=>?_;have tM:Aft (w1.heap.size+1) w2.heap.size w2 V2:=by rw [bz];exact(Kqo (J6.refl _) _ _ _).alloc _
 have hb02:Below (Ko0 W).heap.size (Ko0 W) V2:=tM.below (Jd HB01.out aq) Ua hlf2;have rN:=Nd W V2 (Jd (Kp3 W) hb02);have ze:V2.heap.size=w2.heap.size+1:=by rw [bz];simp
 have eu:=HN.out.1.later aq hlf;have bd:=HN.out.2.later aq hlf;have c0:=Nb V2 w1.heap.size 0 (.string p.name) (tM.cell Un (Ja aq a0));have c1:=Nb V2 w1.heap.size 1 (.slice B1 p.ins.length d1) (tM.cell Un (Ja aq a1));have c2:=Nb V2 w1.heap.size 2 (.slice B2 p.outs.length d2) (tM.cell Un (Ja aq a2));have c3:=Nb V2 w1.heap.size 3 (.slice B3 p.locals.length d3) (tM.cell Un (Ja aq a3));have c4:=Nb V2 w1.heap.size 4 (.slice B4 p.eqs.length d4) (tM.cell Un (Ja aq a4));have c5:=Nb V2 w1.heap.size 5 (.int .u32 m1.ver) (tM.cell Un (Ja aq a5));have c6:=Nb V2 w1.heap.size 6 (.int .u32 m1.fro) (tM.cell Un (Ja aq a6));have c7:=Na V2 w1.heap.size 7 m1.eld (tM.cell Un (Ja aq a7));have c8:=Na V2 w1.heap.size 8 m1.fr.s (tM.cell Un (Ja aq a8));have c9:=Na V2 w1.heap.size 9 m1.fr.o (tM.cell Un (Ja aq a9));have c10:=Na V2 w1.heap.size 10 m1.fr.n (tM.cell Un (Ja aq a10));have c11:=Na V2 w1.heap.size 11 m1.fr.i (tM.cell Un (Ja aq a11));have c12:=Na V2 w1.heap.size 12 m1.fr.u (tM.cell Un (Ja aq a12));have c13:=Nb V2 w1.heap.size 13 (.slice I1 m1.first.length j1) (tM.cell Un (Ja aq a13));have c14:=Nb V2 w1.heap.size 14 (.slice I2 m1.step.length j2) (tM.cell Un (Ja aq a14));have c15:=Nb V2 w1.heap.size 15 (.slice I3 m1.move.length j3) (tM.cell Un (Ja aq a15));have c16:=Na V2 w1.heap.size 16 m1.sf (tM.cell Un (Ja aq a16));have c17:=Na V2 w1.heap.size 17 m1.mf (tM.cell Un (Ja aq a17));have b0:=Nb V2 w2.heap.size 0 (.string nm') (Ktz bz Uh el.out 0 _ rfl);have b1:=Nb V2 w2.heap.size 1 (.slice D1 n1 e1) (Ktz bz Uh el.out 1 _ rfl);have b2:=Nb V2 w2.heap.size 2 (.slice D2 n2 e2) (Ktz bz Uh el.out 2 _ rfl);have b3:=Nb V2 w2.heap.size 3 (.slice D3 n3 e3) (Ktz bz Uh el.out 3 _ rfl);have b4:=Nb V2 w2.heap.size 4 (.slice D4 n4 e4) (Ktz bz Uh el.out 4 _ rfl);have b5:=Nb V2 w2.heap.size 5 (.int .u32 m2.ver) (Ktz bz Uh el.out 5 _ rfl);have b6:=Nb V2 w2.heap.size 6 (.int .u32 m2.fro) (Ktz bz Uh el.out 6 _ rfl);have b7:=Na V2 w2.heap.size 7 m2.eld (Ktz bz Uh el.out 7 _ rfl);have b8:=Na V2 w2.heap.size 8 m2.fr.s (Ktz bz Uh el.out 8 _ rfl);have b9:=Na V2 w2.heap.size 9 m2.fr.o (Ktz bz Uh el.out 9 _ rfl);have b10:=Na V2 w2.heap.size 10 m2.fr.n (Ktz bz Uh el.out 10 _ rfl);have b11:=Na V2 w2.heap.size 11 m2.fr.i (Ktz bz Uh el.out 11 _ rfl);have b12:=Na V2 w2.heap.size 12 m2.fr.u (Ktz bz Uh el.out 12 _ rfl);have b13:=Nb V2 w2.heap.size 13 (.slice Sj1 m2.first.length g1) (Ktz bz Uh el.out 13 _ rfl);have b14:=Nb V2 w2.heap.size 14 (.slice Sj2 m2.step.length g2) (Ktz bz Uh el.out 14 _ rfl);have b15:=Nb V2 w2.heap.size 15 (.slice Sj3 m2.move.length g3) (Ktz bz Uh el.out 15 _ rfl);have b16:=Na V2 w2.heap.size 16 m2.sf (Ktz bz Uh el.out 16 _ rfl);have b17:=Na V2 w2.heap.size 17 m2.mf (Ktz bz Uh el.out 17 _ rfl);have cF:V2.heap[w2.heap.size]?=some (.cells cb 57):=by rw [bz,show w2.heap.size=(((w2.setCell ⟨w1.heap.size+1,0,none⟩ (.int .i64 x1)).setCell ⟨w1.heap.size+1,1,none⟩ (.int .i64 x2)).setCell ⟨w1.heap.size+1,2,none⟩ (.int .i64 x3)).heap.size by simp,Kt0]
 have hB1':V2.heap[w1.heap.size]?=some (.cells ca 57):=((tM.block _ hla2 Un).trans (aq.block _ hla)).trans cT;have h0:=Na V2 (w1.heap.size+1) 0 x1 Uu;have h1:=Na V2 (w1.heap.size+1) 1 x2 Uu;have h2:=Na V2 (w1.heap.size+1) 2 x3 Uu;have gO:∀o,V2.frozen? ⟨w1.heap.size+1,o,none⟩=false:=fun o=>Uu;have him2:=fun V (hk:Aft (w1.heap.size+1) w2.heap.size w2 V) (h:Jd5 w2 m2 ⟨Sj1,g1,Sj2,g2,Sj3,g3⟩) (q:Pr) (qa:PrA) (hq:Kr w2 q qa)=>Ks5 eu bd (Ns _) hk h hq;have wU:=lt0 w2 V2;have hla3:=lt0 w1 V2;have hlf3:=ltA w1 1 V2;clear bz hst2 hst2' cT eu bd jo f0' f1' f2' a0 a1 a2 a3 a4 a5 a6 a7 a8 a9 a10 a11 a12 a13 a14 a15 a16 a17 f0 f1 f2 ff
 by_cases hx3:x3=0
 case neg=>
  have hxi:(x3 != 0)=true:=by simpa using hx3
  clear hres2 sN HMV him2 HP1 HFP HN hB1' cF aW el rT hsz2;have yy0:=Nb V2 W.heap.size 0 (.int .u32 0) (Kov hb02 0 _ rfl);have yy1:=Nb V2 W.heap.size 1 (.int .u32 0) (Kov hb02 1 _ rfl);have yy2:=Na V2 W.heap.size 2 0 (Kov hb02 2 _ rfl);have yy3:=Na V2 W.heap.size 3 0 (Kov hb02 3 _ rfl);have yy4:=Na V2 W.heap.size 4 0 (Kov hb02 4 _ rfl);have yy5:=Na V2 W.heap.size 5 0 (Kov hb02 5 _ rfl);have yy6:=Na V2 W.heap.size 6 0 (Kov hb02 6 _ rfl);have yy7:=Na V2 W.heap.size 7 0 (Kov hb02 7 _ rfl);have yy8:=Nb V2 W.heap.size 8 (.slice none 0 0) (Kov hb02 8 _ rfl);have yy9:=Nb V2 W.heap.size 9 (.slice none 0 0) (Kov hb02 9 _ rfl);have yy10:=Nb V2 W.heap.size 10 (.slice none 0 0) (Kov hb02 10 _ rfl);have yy11:=Na V2 W.heap.size 11 0 (Kov hb02 11 _ rfl);have yy12:=Na V2 W.heap.size 12 0 (Kov hb02 12 _ rfl);have zz0:=Na V2 (W.heap.size+1) 0 0 (Kpb hb02 0 _ rfl);have zz1:=Na V2 (W.heap.size+1) 1 0 (Kpb hb02 1 _ rfl);have zz2:=Na V2 (W.heap.size+1) 2 0 (Kpb hb02 2 _ rfl);have yyf:∀o,V2.frozen? ⟨W.heap.size,o,none⟩=false:=fun o=>Kqa hb02 o;have zzf:∀o,V2.frozen? ⟨W.heap.size+1,o,none⟩=false:=fun o=>Kqc hb02 o;have ylt:W.heap.size<V2.heap.size:=Kp9 hb02;have zlt:W.heap.size+1<V2.heap.size:=Kp8 hb02
  go_upto_region 6 with (fail)
  go_region
  all_goals
   go_wp2_with fail
   refine Zc fun F hF=>?_;obtain⟨hz,hy,hR⟩:=UpR.fault (fro:=fro) (ver:=ver) (k:=2) hb02 (.inr hF) hx3 ⟨Ug,Ug⟩;clear hF;exact Nv (v:= .tuple #[.agg (imL Im.zero ⟨none,0,none,0,none,0⟩).toArray,.int .i64 2,.agg (ftL x1 x2 x3).toArray]) (Kpr rfl (imL Im.zero ⟨none,0,none,0,none,0⟩) (ftL x1 x2 x3) rfl rfl rfl Ue Ue Ue Ue hz hy) rfl hR
 obtain⟨rfl,rfl,q,rfl,rfl,rfl,rfl,rfl,fq,okq,hver2,dR,hpr2⟩:=hres2.out hx3;subst hx3;have bL:=Nf hver2;have HIM2:=Nf (fun V hk=>him2 V hk dR q _ hpr2);have hP2:=(HIM2.out V2 tM).2;have hpv:=HP1.out.later aq
 have hpv2:Kr V2 p ⟨B1,d1,B2,d2,B3,d3,B4,d4⟩:=hpv.later (w':=w2) (Nt) |>.past (fun b o k hk=>tM.block b (Nu hk) (by
  have am:b<w2.heap.size:=Nu hk;rintro(rfl|h)
  ·exact(HN.out.1.later aq hlf) o k hk
  ·omega)) (fun b o s k hk hk'=>tM.block b (Nu hk) (by
  have am:b<w2.heap.size:=Nu hk;rintro(rfl|h)
  ·exact(HN.out.2.later aq hlf) o s k hk hk'
  ·omega))
 have hmv:=HMV.out p q ⟨B1,d1,B2,d2,B3,d3,B4,d4⟩ ⟨D1,e1,D2,e2,D3,e3,D4,e4⟩ m1 m2 ⟨I1,j1,I2,j2,I3,j3⟩ ⟨Sj1,g1,Sj2,g2,Sj3,g3⟩ V2 rN hpv2 hP2 HFP.out fq;dsimp only at hmv;rw [<-aW.out,<-el.out] at hmv;have HM:=Nf hmv;have HA2:=Nf tM;have HB02:=Nf hb02;have HOK2:=Nf okq;clear hmv tM hb02 him2 hres2 hpv hpv2 hP2 hpr2 dR HMV sN HP1 HN HFP fq okq HB01 HBW1 rN hver2;clear c0 c1 c2 c3 c4 c5 c6 c7 c8 c9 c11 c12 c13 c14 c15 c16 c17 aW el
 go_upto_region 8 with (first|((with_reducible refine Kt4 13 ?_ hB1' rT ?_);rfl)|((with_reducible refine Kt4 15 ?_ cF hsz2 ?_);rfl)|(go_at_call 28;go_loud (refine HM.out.mono ?_;rintro r w3 ⟨⟨A6,n6,k6,y1,y2,y3,rfl,hres3⟩,aM⟩;have fe:=aM.size;have jo:=fun o=>(Jf aM _ o hlf3).trans (gO o);have hlf4:=ltA w1 1 w3;have hlb4:=lt0 w2 w3;have hla4:=lt0 w1 w3;have f0':=Ja aM h0;have f1':=Ja aM h1;have f2':=Ja aM h2)))
 refine Jo fun V3 dl=>?_;have xJ:Aft (w1.heap.size+1) w3.heap.size w3 V3:=by rw [dl];exact Kqo (J6.refl _) _ _ _
 have hb03:Below (Ko0 W).heap.size (Ko0 W) V3:=xJ.below (Jd HB02.out aM) Ua hlf4;have hzV3:V3.heap.size=w3.heap.size:=by rw [dl];simp
 have h0':=Na V3 (w1.heap.size+1) 0 y1 (by rw [dl];go_simp)
 have h1':=Na V3 (w1.heap.size+1) 1 y2 (by rw [dl];go_simp)
 have tA:=Na V3 (w1.heap.size+1) 2 y3 (by rw [dl];go_simp)
 have v5:=Nb V3 w2.heap.size 5 (.int .u32 m2.ver) (xJ.cell Us (Ja aM b5));have v6:=Nb V3 w2.heap.size 6 (.int .u32 m2.fro) (xJ.cell Us (Ja aM b6));have v7:=Na V3 w2.heap.size 7 m2.eld (xJ.cell Us (Ja aM b7));have v8:=Na V3 w2.heap.size 8 m2.fr.s (xJ.cell Us (Ja aM b8));have v9:=Na V3 w2.heap.size 9 m2.fr.o (xJ.cell Us (Ja aM b9));have v10:=Na V3 w2.heap.size 10 m2.fr.n (xJ.cell Us (Ja aM b10));have v11:=Na V3 w2.heap.size 11 m2.fr.i (xJ.cell Us (Ja aM b11));have v12:=Na V3 w2.heap.size 12 m2.fr.u (xJ.cell Us (Ja aM b12));have v13:=Nb V3 w2.heap.size 13 (.slice Sj1 m2.first.length g1) (xJ.cell Us (Ja aM b13));have v14:=Nb V3 w2.heap.size 14 (.slice Sj2 m2.step.length g2) (xJ.cell Us (Ja aM b14));have v15:=Nb V3 w2.heap.size 15 (.slice Sj3 m2.move.length g3) (xJ.cell Us (Ja aM b15));have v16:=Na V3 w2.heap.size 16 m2.sf (xJ.cell Us (Ja aM b16));have v17:=Na V3 w2.heap.size 17 m2.mf (xJ.cell Us (Ja aM b17));have u10:=Na V3 w1.heap.size 10 m1.fr.n (xJ.cell (by show ¬(w1.heap.size=w1.heap.size+1\/w3.heap.size<=w1.heap.size);omega) (Ja aM c10));have hA23:Aft (w1.heap.size+1) w2.heap.size w2 V3:=((HA2.out.trans' (J6.bel aM)).trans xJ (by rintro k hk (h|h) <;> first|exact .inl h|(have:w3.heap.size<=k:=h;omega)));have hlb5:=lt0 w2 V3;have hla5:=lt0 w1 V3;have hlf5:=ltA w1 1 V3;clear dl HM jo f0' f1' f2' h0 h1 h2 gO hB1' cF rT hsz2 c10 b0 b1 b2 b3 b4 b5 b6 b7 b8 b9 b10 b11 b12 b13 b14 b15 b16 b17
 by_cases ow:y3=0
 case neg=>
  have hyi:(y3 != 0)=true:=by simpa using ow
  clear hres3;have yy0:=Nb V3 W.heap.size 0 (.int .u32 0) (Kov hb03 0 _ rfl);have yy1:=Nb V3 W.heap.size 1 (.int .u32 0) (Kov hb03 1 _ rfl);have yy2:=Na V3 W.heap.size 2 0 (Kov hb03 2 _ rfl);have yy3:=Na V3 W.heap.size 3 0 (Kov hb03 3 _ rfl);have yy4:=Na V3 W.heap.size 4 0 (Kov hb03 4 _ rfl);have yy5:=Na V3 W.heap.size 5 0 (Kov hb03 5 _ rfl);have yy6:=Na V3 W.heap.size 6 0 (Kov hb03 6 _ rfl);have yy7:=Na V3 W.heap.size 7 0 (Kov hb03 7 _ rfl);have yy8:=Nb V3 W.heap.size 8 (.slice none 0 0) (Kov hb03 8 _ rfl);have yy9:=Nb V3 W.heap.size 9 (.slice none 0 0) (Kov hb03 9 _ rfl);have yy10:=Nb V3 W.heap.size 10 (.slice none 0 0) (Kov hb03 10 _ rfl);have yy11:=Na V3 W.heap.size 11 0 (Kov hb03 11 _ rfl);have yy12:=Na V3 W.heap.size 12 0 (Kov hb03 12 _ rfl);have zz0:=Na V3 (W.heap.size+1) 0 0 (Kpb hb03 0 _ rfl);have zz1:=Na V3 (W.heap.size+1) 1 0 (Kpb hb03 1 _ rfl);have zz2:=Na V3 (W.heap.size+1) 2 0 (Kpb hb03 2 _ rfl);have yyf:∀o,V3.frozen? ⟨W.heap.size,o,none⟩=false:=fun o=>Kqa hb03 o;have zzf:∀o,V3.frozen? ⟨W.heap.size+1,o,none⟩=false:=fun o=>Kqc hb03 o;have ylt:W.heap.size<V3.heap.size:=Kp9 hb03;have zlt:W.heap.size+1<V3.heap.size:=Kp8 hb03
  go_upto_region 9 with (fail)
  go_region
  all_goals
   go_wp2_with fail
   refine Zc fun F hF=>?_;obtain⟨hz,hy,hR⟩:=UpR.fault (fro:=fro) (ver:=ver) (k:=3) hb03 (.inr hF) ow ⟨Ug,Ug⟩;clear hF;exact Nv (v:= .tuple #[.agg (imL Im.zero ⟨none,0,none,0,none,0⟩).toArray,.int .i64 3,.agg (ftL y1 y2 y3).toArray]) (Kpr rfl (imL Im.zero ⟨none,0,none,0,none,0⟩) (ftL y1 y2 y3) rfl rfl rfl Ue Ue Ue Ue hz hy) rfl hR
 obtain⟨rfl,rfl,hvlt,c,rfl,ae,h6,hci⟩:=hres3 ow;subst ow;have HLT:=Nf hvlt;have HCI:=Nf hci;have ho3:=xJ.own (fun b hb=>by have:=ae.lt b hb;show ¬(b=w1.heap.size+1\/w3.heap.size<=b);omega) ae
 have kR:Kos V3 c A6 k6:=by
  obtain⟨A',cap',nI,aY⟩:=Kos.of_own ho3;injection nI with e1 e2 e3;subst e1 e3;exact aY
 have him3:=(HIM2.out V3 hA23).1
 have hj:∃d fu e at_,∀V,Below V3.heap.size V3 V->Calls Tryz.prog 29 #[.slice A6 c.length k6,.agg #[.int .i64 0,.int .i64 m1.fr.n,.int .i64 m2.fr.n,.int .i64 0,.int .i64 0]] V fun r w'=>r = .returned (.tuple #[.agg #[.int .i64 d,.int .i64 fu],.int .i64 e,.int .i64 at_])/\Below V.heap.size V w':=
  ⟨_,_,_,_,fun V hb=>Jmz c A6 k6 ⟨0,m1.fr.n,m2.fr.n,0,0⟩ V (kR.later hb) hci⟩
 obtain⟨jd,fu,je,ja,hj⟩:=hj;have aw:Jsj ⟨m2.ver,fro,m1.fr.n,m2.fr,m2.first,m2.step,c,m2.sf,fu⟩:=⟨HOK2.out.ver,HF.out,HOK2.out.first,HOK2.out.step,hci⟩;have himM:Jd5 V3 ⟨m2.ver,fro,m1.fr.n,m2.fr,m2.first,m2.step,c,m2.sf,fu⟩ ⟨Sj1,g1,Sj2,g2,A6,k6⟩:=⟨him3.first,him3.step,kR⟩
 have hen:∃n0 n1,(n1=0->(Jdl ⟨m2.ver,fro,m1.fr.n,m2.fr,m2.first,m2.step,c,m2.sf,fu⟩).2=0)/\∀V,Below V3.heap.size V3 V->Calls Tryz.prog 12 #[.agg #[.int .u32 m2.ver,.int .u32 fro,.int .i64 m1.fr.n,.int .i64 m2.fr.s,.int .i64 m2.fr.o,.int .i64 m2.fr.n,.int .i64 m2.fr.i,.int .i64 m2.fr.u,.slice Sj1 m2.first.length g1,.slice Sj2 m2.step.length g2,.slice A6 c.length k6,.int .i64 m2.sf,.int .i64 fu]] V fun r w'=>(∃A cap,r = .returned (.tuple #[.slice A n0 cap,.int .i64 n1]))/\Below V.heap.size V w':=
  ⟨_,_,fun h=>h,fun V hb=>Jos ⟨m2.ver,fro,m1.fr.n,m2.fr,m2.first,m2.step,c,m2.sf,fu⟩ ⟨Sj1,g1,Sj2,g2,A6,k6⟩ V (himM.later hb) aw⟩
 obtain⟨n0,n1,he0,hen⟩:=hen;have HJ:=Nf hj;have HEN:=Nf hen;have HE0:=Nf he0;have HOKM:=Nf aw;have HIMM:=Nf himM;have HB03:=Nf hb03;have hn17:w1.heap.size≠V3.heap.size:=Ua;have hn17':V3.heap.size≠w1.heap.size:=Ua;clear hvlt hci ho3 kR him3 hj hen he0 aw himM hb03 ae hres3 xJ hA23 aM HIM2 HA2 HB02 HOK2 h6 ne1 ne2 ne3 ne4 af hz12 hzV1 ze hzV3 br fe wU hlb4 hlf hlf2 hlf3 hlf4 hla hla2 hla3 hla4
 go_upto_region 11 with (fail)
 refine Jo fun V4 eE=>?_;have hx4:UpS V3 V4 V3.heap.size (imL m2 ⟨Sj1,g1,Sj2,g2,Sj3,g3⟩):=by rw [eE];exact UpS.new V3 _ _
 have u10':=Na V4 w1.heap.size 10 m1.fr.n (Ja hx4.bel u10);have e0:=Nb V4 V3.heap.size 0 (.int .u32 m2.ver) (hx4.cells 0 _ rfl);have e1:=Nb V4 V3.heap.size 1 (.int .u32 m2.fro) (hx4.cells 1 _ rfl);have e2:=Na V4 V3.heap.size 2 m2.eld (hx4.cells 2 _ rfl);have e3:=Na V4 V3.heap.size 3 m2.fr.s (hx4.cells 3 _ rfl);have e4:=Na V4 V3.heap.size 4 m2.fr.o (hx4.cells 4 _ rfl);have e5:=Na V4 V3.heap.size 5 m2.fr.n (hx4.cells 5 _ rfl);have e6:=Na V4 V3.heap.size 6 m2.fr.i (hx4.cells 6 _ rfl);have e7:=Na V4 V3.heap.size 7 m2.fr.u (hx4.cells 7 _ rfl);have e8:=Nb V4 V3.heap.size 8 (.slice Sj1 m2.first.length g1) (hx4.cells 8 _ rfl);have e9:=Nb V4 V3.heap.size 9 (.slice Sj2 m2.step.length g2) (hx4.cells 9 _ rfl);have e10:=Nb V4 V3.heap.size 10 (.slice Sj3 m2.move.length g3) (hx4.cells 10 _ rfl);have e11:=Na V4 V3.heap.size 11 m2.sf (hx4.cells 11 _ rfl);have e12:=Na V4 V3.heap.size 12 m2.mf (hx4.cells 12 _ rfl);have ef:=hx4.fz;have qS:=hx4.lt;have hz41:=lt0 w1 V4;have HX4:=Nf hx4;clear eE hx4 h0' h1' tA u10 v5 v6 v7 v8 v9 v10 v11 v12 v13 v14 v15 v16 v17
 go_cut [16,17] from 59 to 67 (fun s16 s17 wx=>s16 = .slice A6 c.length k6/\s17 = .pointer (some ⟨V3.heap.size,0,none⟩)/\Hid (UpS V3 wx V3.heap.size ((((imL m2 ⟨Sj1,g1,Sj2,g2,Sj3,g3⟩).set 1 (.int .u32 fro)).set 2 (.int .i64 m1.fr.n)).set 10 (.slice A6 c.length k6))))
 case first=>
  go_region
  all_goals
   go_wp2_with fail
   go_meet
   first
    | exact⟨rfl,rfl,Nf ((((HX4.out.drew.set (Ns _) 1 Sh _).set (Ns _) 2 Sh _).set (Ns _) 10 Sh _))⟩
    | exact⟨rfl,rfl,Nf ((((HX4.out.set (Ns _) 1 Sh _).set (Ns _) 2 Sh _).set (Ns _) 10 Sh _))⟩
 case rest=>
  obtain⟨rfl,rfl,hcu⟩:=hcut;have hc:=hcu.out;have hlc:=hc.lt;have q2:=Na wc V3.heap.size 2 m1.fr.n (hc.cells 2 _ rfl);have q5:=Na wc V3.heap.size 5 m2.fr.n (hc.cells 5 _ rfl);have HX:=Nf hc;have HJC:=Nf (HJ.out wc HX.out.bel);clear hcu hc e0 e1 e2 e3 e4 e5 e6 e7 e8 e9 e10 e11 e12 ef u10' qS hz41 HX4 hn17 hn17' HJ
  go_upto_region 13 with (go_at_call 29;go_loud (refine HJC.out.mono ?_;rintro r w4 ⟨rfl,ei⟩))
  refine Jo fun V5 gy=>?_;have da:=Nd w4 V5 (by rw [gy];exact Jc (Nt) _)
  have wT:=HX.out.later (Jd ei da);have t1:=Na V5 w4.heap.size 1 fu (by rw [gy];go_simp)
  have yx:w4.heap.size<V5.heap.size:=by rw [gy];simp
  have r12:=Na V5 V3.heap.size 12 m2.mf (wT.cells 12 _ rfl);have rf:=wT.fz;have hz6:=wT.lt;have HX5:=Nf wT;clear gy da ei wT q2 q5 HJC HX hlc
  go_upto_region 14 with (fail)
  refine Jo fun V6 un=>?_;have hx6:UpS V3 V6 V3.heap.size (((((imL m2 ⟨Sj1,g1,Sj2,g2,Sj3,g3⟩).set 1 (.int .u32 fro)).set 2 (.int .i64 m1.fr.n)).set 10 (.slice A6 c.length k6)).set 12 (.int .i64 fu)):=by rw [un];exact HX5.out.set (Ns _) 12 Sh _
  have e0:=Nb V6 V3.heap.size 0 (.int .u32 m2.ver) (hx6.cells 0 _ rfl);have e1:=Nb V6 V3.heap.size 1 (.int .u32 fro) (hx6.cells 1 _ rfl);have e2:=Na V6 V3.heap.size 2 m1.fr.n (hx6.cells 2 _ rfl);have e3:=Na V6 V3.heap.size 3 m2.fr.s (hx6.cells 3 _ rfl);have e4:=Na V6 V3.heap.size 4 m2.fr.o (hx6.cells 4 _ rfl);have e5:=Na V6 V3.heap.size 5 m2.fr.n (hx6.cells 5 _ rfl);have e6:=Na V6 V3.heap.size 6 m2.fr.i (hx6.cells 6 _ rfl);have e7:=Na V6 V3.heap.size 7 m2.fr.u (hx6.cells 7 _ rfl);have e8:=Nb V6 V3.heap.size 8 (.slice Sj1 m2.first.length g1) (hx6.cells 8 _ rfl);have e9:=Nb V6 V3.heap.size 9 (.slice Sj2 m2.step.length g2) (hx6.cells 9 _ rfl);have e10:=Nb V6 V3.heap.size 10 (.slice A6 c.length k6) (hx6.cells 10 _ rfl);have e11:=Na V6 V3.heap.size 11 m2.sf (hx6.cells 11 _ rfl);have e12:=Na V6 V3.heap.size 12 fu (hx6.cells 12 _ rfl);have hz7:=hx6.lt;have HX6:=Nf hx6;have HEN6:=Nf (HEN.out V6 hx6.bel);clear un hx6 t1 yx r12 rf hz6 HX5 HEN
  go_upto_region 15 with (go_at_call 12;go_loud (refine HEN6.out.mono ?_;rintro r w5 ⟨⟨A7,k7,rfl⟩,hb7⟩))
  have hx7:=HX6.out.later hb7;have bl:=Jd HB03.out hx7.bel;have HX7:=Nf hx7;clear hx7 HX6 hb7 HEN6 hz7 e0 e1 e2 e3 e4 e5 e6 e7 e8 e9 e10 e11 e12
  by_cases he:n1=0
  case neg=>
   have hei:(n1 != 0)=true:=F8;clear HE0 HX7 HIMM HOKM;have yy0:=Nb w5 W.heap.size 0 (.int .u32 0) (Kov bl 0 _ rfl);have yy1:=Nb w5 W.heap.size 1 (.int .u32 0) (Kov bl 1 _ rfl);have yy2:=Na w5 W.heap.size 2 0 (Kov bl 2 _ rfl);have yy3:=Na w5 W.heap.size 3 0 (Kov bl 3 _ rfl);have yy4:=Na w5 W.heap.size 4 0 (Kov bl 4 _ rfl);have yy5:=Na w5 W.heap.size 5 0 (Kov bl 5 _ rfl);have yy6:=Na w5 W.heap.size 6 0 (Kov bl 6 _ rfl);have yy7:=Na w5 W.heap.size 7 0 (Kov bl 7 _ rfl);have yy8:=Nb w5 W.heap.size 8 (.slice none 0 0) (Kov bl 8 _ rfl);have yy9:=Nb w5 W.heap.size 9 (.slice none 0 0) (Kov bl 9 _ rfl);have yy10:=Nb w5 W.heap.size 10 (.slice none 0 0) (Kov bl 10 _ rfl);have yy11:=Na w5 W.heap.size 11 0 (Kov bl 11 _ rfl);have yy12:=Na w5 W.heap.size 12 0 (Kov bl 12 _ rfl);have zz0:=Na w5 (W.heap.size+1) 0 0 (Kpb bl 0 _ rfl);have zz1:=Na w5 (W.heap.size+1) 1 0 (Kpb bl 1 _ rfl);have zz2:=Na w5 (W.heap.size+1) 2 0 (Kpb bl 2 _ rfl);have yyf:∀o,w5.frozen? ⟨W.heap.size,o,none⟩=false:=fun o=>Kqa bl o;have zzf:∀o,w5.frozen? ⟨W.heap.size+1,o,none⟩=false:=fun o=>Kqc bl o;have ylt:W.heap.size<w5.heap.size:=Kp9 bl;have zlt:W.heap.size+1<w5.heap.size:=Kp8 bl
   go_wp2_with fail
   refine Zc fun F hF=>?_;obtain⟨hz,hy,hR⟩:=UpR.fault (fro:=fro) (ver:=ver) (k:=2) bl (.inl hF) he ⟨Ug,Ug⟩;clear hF;exact Nv (v:= .tuple #[.agg (imL Im.zero ⟨none,0,none,0,none,0⟩).toArray,.int .i64 2,.agg (ftL 4 0 n1).toArray]) (Kpr rfl (imL Im.zero ⟨none,0,none,0,none,0⟩) (ftL 4 0 n1) rfl rfl rfl Ue Ue Ue Ue hz hy) rfl hR
  subst he;have e0:=Nb w5 V3.heap.size 0 (.int .u32 m2.ver) (HX7.out.cells 0 _ rfl);have e1:=Nb w5 V3.heap.size 1 (.int .u32 fro) (HX7.out.cells 1 _ rfl);have e2:=Na w5 V3.heap.size 2 m1.fr.n (HX7.out.cells 2 _ rfl);have e3:=Na w5 V3.heap.size 3 m2.fr.s (HX7.out.cells 3 _ rfl);have e4:=Na w5 V3.heap.size 4 m2.fr.o (HX7.out.cells 4 _ rfl);have e5:=Na w5 V3.heap.size 5 m2.fr.n (HX7.out.cells 5 _ rfl);have e6:=Na w5 V3.heap.size 6 m2.fr.i (HX7.out.cells 6 _ rfl);have e7:=Na w5 V3.heap.size 7 m2.fr.u (HX7.out.cells 7 _ rfl);have e8:=Nb w5 V3.heap.size 8 (.slice Sj1 m2.first.length g1) (HX7.out.cells 8 _ rfl);have e9:=Nb w5 V3.heap.size 9 (.slice Sj2 m2.step.length g2) (HX7.out.cells 9 _ rfl);have e10:=Nb w5 V3.heap.size 10 (.slice A6 c.length k6) (HX7.out.cells 10 _ rfl);have e11:=Na w5 V3.heap.size 11 m2.sf (HX7.out.cells 11 _ rfl);have e12:=Na w5 V3.heap.size 12 fu (HX7.out.cells 12 _ rfl);have yy0:=Nb w5 W.heap.size 0 (.int .u32 0) (Kov bl 0 _ rfl);have yy1:=Nb w5 W.heap.size 1 (.int .u32 0) (Kov bl 1 _ rfl);have yy2:=Na w5 W.heap.size 2 0 (Kov bl 2 _ rfl);have yy3:=Na w5 W.heap.size 3 0 (Kov bl 3 _ rfl);have yy4:=Na w5 W.heap.size 4 0 (Kov bl 4 _ rfl);have yy5:=Na w5 W.heap.size 5 0 (Kov bl 5 _ rfl);have yy6:=Na w5 W.heap.size 6 0 (Kov bl 6 _ rfl);have yy7:=Na w5 W.heap.size 7 0 (Kov bl 7 _ rfl);have yy8:=Nb w5 W.heap.size 8 (.slice none 0 0) (Kov bl 8 _ rfl);have yy9:=Nb w5 W.heap.size 9 (.slice none 0 0) (Kov bl 9 _ rfl);have yy10:=Nb w5 W.heap.size 10 (.slice none 0 0) (Kov bl 10 _ rfl);have yy11:=Na w5 W.heap.size 11 0 (Kov bl 11 _ rfl);have yy12:=Na w5 W.heap.size 12 0 (Kov bl 12 _ rfl);have zz0:=Na w5 (W.heap.size+1) 0 0 (Kpb bl 0 _ rfl);have zz1:=Na w5 (W.heap.size+1) 1 0 (Kpb bl 1 _ rfl);have zz2:=Na w5 (W.heap.size+1) 2 0 (Kpb bl 2 _ rfl);have yyf:∀o,w5.frozen? ⟨W.heap.size,o,none⟩=false:=fun o=>Kqa bl o;have zzf:∀o,w5.frozen? ⟨W.heap.size+1,o,none⟩=false:=fun o=>Kqc bl o;have ylt:W.heap.size<w5.heap.size:=Kp9 bl;have zlt:W.heap.size+1<w5.heap.size:=Kp8 bl;have hz7:=HX7.out.lt;have HI7:=Nf (HIMM.out.later HX7.out.bel);have HB5:=Nf bl;have HEK:=Nf (Kty (HE0.out rfl));clear HX7 HIMM HE0 bl HB03
  go_wp2_with fail
  refine Zc fun F hF=>?_;obtain⟨hz,hy,hbF,himF⟩:=Ks1 (f1:=0) (f2:=0) (f3:=0) HB5.out HI7.out (.inl hF);clear hF;exact Nv (v:= .tuple #[.agg (imL ⟨m2.ver,fro,m1.fr.n,m2.fr,m2.first,m2.step,c,m2.sf,fu⟩ ⟨Sj1,g1,Sj2,g2,A6,k6⟩).toArray,.int .i64 0,.agg (ftL 0 0 0).toArray]) (Kpr rfl (imL ⟨m2.ver,fro,m1.fr.n,m2.fr,m2.first,m2.step,c,m2.sf,fu⟩ ⟨Sj1,g1,Sj2,g2,A6,k6⟩) (ftL 0 0 0) rfl rfl rfl Ue Ue Ue Ue hz hy) rfl ⟨⟨⟨m2.ver,fro,m1.fr.n,m2.fr,m2.first,m2.step,c,m2.sf,fu⟩,⟨Sj1,g1,Sj2,g2,A6,k6⟩,0,0,0,0,rfl,himF,.inr ⟨rfl,rfl,rfl,rfl,HOKM.out,HEK.out.1,HEK.out.2,rfl,bL.out,by have h1:=HLT.out;rw [ku.out,bL.out] at h1;exact h1⟩⟩,hbF⟩
end Go.Proofs.YtdgjplldlfeolaaGreatDoor
