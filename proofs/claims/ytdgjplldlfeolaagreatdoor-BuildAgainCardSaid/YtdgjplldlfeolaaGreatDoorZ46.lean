/- Lemmas. -/
import Derived.Test.YtdgjplldlfeolaaGreatDoorZ44
import Derived.Deep.CutRange
import Derived.Test.YtdgjplldlfeolaaGreatDoorZ36
import Derived.Test.YtdgjplldlfeolaaGreatDoorZ02
import Derived.Test.YtdgjplldlfeolaaGreatDoorZ04
import Derived.Test.YtdgjplldlfeolaaGreatDoorZ18
import Derived.Test.YtdgjplldlfeolaaGreatDoorZ37
import Derived.Deep.RegionLaw
import Derived.BigRegion
set_option linter.unusedVariables false
set_option linter.unusedSimpArgs false
set_option maxRecDepth 100000
set_option maxHeartbeats 64000000
namespace Go.Proofs.YtdgjplldlfeolaaGreatDoor
open Go.RowKit Go.Sort
theorem Jqe (m:Im) (a:ImA) (w:World) (hm:Jd5 w m a) (aw:Jsj m) :
  Calls Tryz.prog 14 #[imV m a] w fun r w'=>r = .returned (.int .i64 m.wrong)/\Below w.heap.size w w':=by
 have ac:=fun W (h:Below w.heap.size w W)=>Jmr m.step a.A2 a.c2 m.fr m.sf W (hm.step.later h) aw.step;have aq:=fun W (h:Below w.heap.size w W)=>Jmr m.move a.A3 a.c3 m.moves m.mf W (hm.move.later h) aw.move;have hmv:=fun W=>Jtt m a W;have ak:=hm.first.1;have kE:=hm.move.1;obtain⟨R,hR⟩:∃R,R=m.wrong:=⟨_,rfl⟩;rw [<-hR];unfold Im.wrong at hR;obtain⟨A1,c1,A2,c2,A3,c3⟩:=a;unfold imV at *;unfold frV at ac aq hmv;dsimp only at *;generalize Jcj m.step m.fr m.sf=e1 at *;generalize Jcj m.move m.moves m.mf=e2 at *;generalize m.moves=mv at *;have HB1:=Lib.hid ac;have HB2:=Lib.hid aq;have HMV:=Lib.hid hmv;clear hm aw ac aq hmv
 by_cases a1:m.ver=0
 ·have hv:R=1:=by rw [hR,if_pos (.inl a1)]
  have t1:(m.ver == 0)=true:=by simpa using a1
  clear hR a1;have HV:=Lib.hid hv;clear hv
  go_enter Tryz.func14,Tryz.ntmps14
  go_wp2_with fail
  go_ret;exact⟨Jm HV.out.symm,Jb⟩
 have t1:(m.ver == 0)=false:=by simpa using a1
 by_cases a2:m.ver<=m.fro
 ·have hv:R=1:=by rw [hR,if_pos (.inr (.inl a2))]
  clear hR a1;have HV:=Lib.hid hv;clear hv
  go_enter Tryz.func14,Tryz.ntmps14
  go_wp2_with fail
  go_ret;exact⟨Jm HV.out.symm,Jb⟩
 by_cases a3:m.eld<0
 ·have hv:R=1:=by rw [hR,if_pos (.inr (.inr (.inl a3)))]
  clear hR a1;have HV:=Lib.hid hv;clear hv
  go_enter Tryz.func14,Tryz.ntmps14
  go_wp2_with fail
  go_ret;exact⟨Jm HV.out.symm,Jb⟩
 by_cases a4:16<m.eld
 ·have hv:R=1:=by rw [hR,if_pos (.inr (.inr (.inr a4)))]
  clear hR a1;have HV:=Lib.hid hv;clear hv
  go_enter Tryz.func14,Tryz.ntmps14
  go_wp2_with fail
  go_ret;exact⟨Jm HV.out.symm,Jb⟩
 rw [if_neg (by omega)] at hR
 by_cases b1:m.fr.o≠m.fr.n
 ·have hv:R=1:=by rw [hR,if_pos (.inl b1)]
  have t2:(m.fr.o != m.fr.n)=true:=by simpa using b1
  clear hR a1 b1;have HV:=Lib.hid hv;clear hv
  go_enter Tryz.func14,Tryz.ntmps14
  go_wp2_with fail
  go_ret;exact⟨Jm HV.out.symm,Jb⟩
 have t2:(m.fr.o != m.fr.n)=false:=by simpa using b1
 by_cases b2:(m.first.length:Int)≠m.fr.n
 ·have hv:R=1:=by rw [hR,if_pos (.inr b2)]
  have t3:((m.first.length:Int) != m.fr.n)=true:=by simpa using b2
  clear hR a1 b1 b2;have HV:=Lib.hid hv;clear hv
  go_enter Tryz.func14,Tryz.ntmps14
  go_wp2_with fail
  go_ret;exact⟨Jm HV.out.symm,Jb⟩
 have t3:((m.first.length:Int) != m.fr.n)=false:=by simpa using b2
 rw [if_neg (by omega)] at hR;clear a1 b1 b2
 by_cases f0:m.fro=0
 ·have t4:(m.fro == 0)=true:=by simpa using f0
  by_cases d1:0<m.eld
  ·have hv:R=1:=by rw [hR,if_pos ⟨f0,.inl d1⟩]
   clear hR f0;have HV:=Lib.hid hv;clear hv
   go_enter Tryz.func14,Tryz.ntmps14
   go_wp2_with fail
   go_ret;exact⟨Jm HV.out.symm,Jb⟩
  by_cases d2:0<m.move.length
  ·have hv:R=1:=by rw [hR,if_pos ⟨f0,.inr d2⟩]
   have d2':(0:Int)<(m.move.length:Int):=by omega
   clear hR f0 d2;have HV:=Lib.hid hv;clear hv
   go_enter Tryz.func14,Tryz.ntmps14
   go_wp2_with fail
   go_ret;exact⟨Jm HV.out.symm,Jb⟩
  have d2':¬(0:Int)<(m.move.length:Int):=by omega
  rw [if_neg (fun h=>by omega)] at hR;clear f0 d2
  by_cases h1:e1=0
  ·have hv:R=e2:=by rw [hR,if_neg (fun h=>h h1)]
   clear hR;subst h1;have HV:=Lib.hid hv;clear hv
   go_enter Tryz.func14,Tryz.ntmps14
   go_upto_region 15 with (first|(go_at_call 32;go_loud (refine(HB1.out _ Jb).mono ?_;rintro r w1 ⟨rfl,ac⟩)))
   refine Jo fun W0 ag=>?_;have aC:Below w.heap.size w W0:=by rw [ag];exact Jb
   have z0:W0.cell? ⟨w.heap.size,0,none⟩=some (.int .u32 m.ver):=by rw [ag];exact Ja ac (by go_simp)
   have z1:W0.cell? ⟨w.heap.size,1,none⟩=some (.int .u32 m.fro):=by rw [ag];exact Ja ac (by go_simp)
   have z2:W0.cell? ⟨w.heap.size,2,none⟩=some (.int .i64 m.eld):=by rw [ag];exact Ja ac (by go_simp)
   have z3:W0.cell? ⟨w.heap.size,3,none⟩=some (.int .i64 m.fr.s):=by rw [ag];exact Ja ac (by go_simp)
   have z4:W0.cell? ⟨w.heap.size,4,none⟩=some (.int .i64 m.fr.o):=by rw [ag];exact Ja ac (by go_simp)
   have z5:W0.cell? ⟨w.heap.size,5,none⟩=some (.int .i64 m.fr.n):=by rw [ag];exact Ja ac (by go_simp)
   have z6:W0.cell? ⟨w.heap.size,6,none⟩=some (.int .i64 m.fr.i):=by rw [ag];exact Ja ac (by go_simp)
   have z7:W0.cell? ⟨w.heap.size,7,none⟩=some (.int .i64 m.fr.u):=by rw [ag];exact Ja ac (by go_simp)
   have z8:W0.cell? ⟨w.heap.size,8,none⟩=some (.slice A1 m.first.length c1):=by rw [ag];exact Ja ac (by go_simp)
   have z9:W0.cell? ⟨w.heap.size,9,none⟩=some (.slice A2 m.step.length c2):=by rw [ag];exact Ja ac (by go_simp)
   have z10:W0.cell? ⟨w.heap.size,10,none⟩=some (.slice A3 m.move.length c3):=by rw [ag];exact Ja ac (by go_simp)
   have z11:W0.cell? ⟨w.heap.size,11,none⟩=some (.int .i64 m.sf):=by rw [ag];exact Ja ac (by go_simp)
   have z12:W0.cell? ⟨w.heap.size,12,none⟩=some (.int .i64 m.mf):=by rw [ag];exact Ja ac (by go_simp)
   have hS:∀w',Below W0.heap.size W0 w'->w'.cell? ⟨w.heap.size,0,none⟩=some (.int .u32 m.ver)/\w'.cell? ⟨w.heap.size,1,none⟩=some (.int .u32 m.fro)/\w'.cell? ⟨w.heap.size,2,none⟩=some (.int .i64 m.eld)/\w'.cell? ⟨w.heap.size,3,none⟩=some (.int .i64 m.fr.s)/\w'.cell? ⟨w.heap.size,4,none⟩=some (.int .i64 m.fr.o)/\w'.cell? ⟨w.heap.size,5,none⟩=some (.int .i64 m.fr.n)/\w'.cell? ⟨w.heap.size,6,none⟩=some (.int .i64 m.fr.i)/\w'.cell? ⟨w.heap.size,7,none⟩=some (.int .i64 m.fr.u)/\w'.cell? ⟨w.heap.size,8,none⟩=some (.slice A1 m.first.length c1)/\w'.cell? ⟨w.heap.size,9,none⟩=some (.slice A2 m.step.length c2)/\w'.cell? ⟨w.heap.size,10,none⟩=some (.slice A3 m.move.length c3)/\w'.cell? ⟨w.heap.size,11,none⟩=some (.int .i64 m.sf)/\w'.cell? ⟨w.heap.size,12,none⟩=some (.int .i64 m.mf):=fun w' hb=>⟨Ja hb z0,Ja hb z1,Ja hb z2,Ja hb z3,Ja hb z4,Ja hb z5,Ja hb z6,Ja hb z7,Ja hb z8,Ja hb z9,Ja hb z10,Ja hb z11,Ja hb z12⟩;have HS:=Lib.hid hS;have ar:=hS W0.drew (Jh (Below.refl _ _));clear ag hS z0 z1 z2 z3 z4 z5 z6 z7 z8 z9 z10 z11 z12;refine Kd (fun w'=>w'.cell? ⟨w.heap.size,0,none⟩=some (.int .u32 m.ver)/\w'.cell? ⟨w.heap.size,1,none⟩=some (.int .u32 m.fro)/\w'.cell? ⟨w.heap.size,2,none⟩=some (.int .i64 m.eld)/\w'.cell? ⟨w.heap.size,3,none⟩=some (.int .i64 m.fr.s)/\w'.cell? ⟨w.heap.size,4,none⟩=some (.int .i64 m.fr.o)/\w'.cell? ⟨w.heap.size,5,none⟩=some (.int .i64 m.fr.n)/\w'.cell? ⟨w.heap.size,6,none⟩=some (.int .i64 m.fr.i)/\w'.cell? ⟨w.heap.size,7,none⟩=some (.int .i64 m.fr.u)/\w'.cell? ⟨w.heap.size,8,none⟩=some (.slice A1 m.first.length c1)/\w'.cell? ⟨w.heap.size,9,none⟩=some (.slice A2 m.step.length c2)/\w'.cell? ⟨w.heap.size,10,none⟩=some (.slice A3 m.move.length c3)/\w'.cell? ⟨w.heap.size,11,none⟩=some (.int .i64 m.sf)/\w'.cell? ⟨w.heap.size,12,none⟩=some (.int .i64 m.mf)) 7 1 (by kernel_rfl) (by rfl) ?_;simp only [List.size_toArray,List.length_cons,List.length_nil,Nat.zero_add,Nat.reduceAdd];refine Ji 0 ar ?_;refine Ji 1 ar ?_;refine Ji 2 ar ?_;refine Ji 4 ar ?_;refine Ji 5 ar ?_;refine Kb 3 ?_;refine Jj fun K hK=>?_;go_simp;refine(HMV.out _).mono ?_;rintro r w2 ⟨rfl,aq⟩;dsimp only;have cF:Below W0.heap.size W0 w2:=Jd (Jh (Below.refl _ _)) aq;refine hK _ _ ⟨HS.out w2 cF,?_⟩;clear hK K
   try simp only [Act.put,sa1,sa2,sa3]
   refine Kb 6 ?_;refine Jj fun K hK=>?_;go_simp;refine(HB2.out _ (Jd aC cF)).mono ?_;rintro r w3 ⟨rfl,aM⟩;dsimp only;have cZ:Below W0.heap.size W0 w3:=Jd cF aM;refine hK _ _ ⟨HS.out w3 cZ,?_⟩;clear hK K
   try simp only [Act.put,sa1,sa2,sa3]
   refine Kh (by kernel_rfl) ?_;refine Qx 7 ?_;refine Jj fun K hK=>?_;go_simp;refine hK _ _ ?_;clear hK K
   try simp only [Act.put,sa1,sa2,sa3]
   refine Ki (by kernel_rfl) ?_
   go_wp2_with fail
   go_ret;exact⟨Jm HV.out.symm,Jd aC cZ⟩
  ·have hv:R=e1:=by rw [hR,if_pos h1]
   have t5:(e1 != 0)=true:=by simpa using h1
   clear hR h1;have HV:=Lib.hid hv;clear hv
   go_enter Tryz.func14,Tryz.ntmps14
   go_wp2_with (first|(go_at_call 32;go_loud (refine(HB1.out _ Jb).mono ?_;rintro r w1 ⟨rfl,ac⟩)))
   go_ret;exact⟨Jm HV.out.symm,Jb⟩
 ·have t4:(m.fro == 0)=false:=by simpa using f0
  rw [if_neg (fun h=>f0 h.1)] at hR;clear f0
  by_cases h1:e1=0
  ·have hv:R=e2:=by rw [hR,if_neg (fun h=>h h1)]
   clear hR;subst h1;have HV:=Lib.hid hv;clear hv
   go_enter Tryz.func14,Tryz.ntmps14
   go_upto_region 15 with (first|(go_at_call 32;go_loud (refine(HB1.out _ Jb).mono ?_;rintro r w1 ⟨rfl,ac⟩)))
   refine Jo fun W0 ag=>?_;have aC:Below w.heap.size w W0:=by rw [ag];exact Jb
   have z0:W0.cell? ⟨w.heap.size,0,none⟩=some (.int .u32 m.ver):=by rw [ag];exact Ja ac (by go_simp)
   have z1:W0.cell? ⟨w.heap.size,1,none⟩=some (.int .u32 m.fro):=by rw [ag];exact Ja ac (by go_simp)
   have z2:W0.cell? ⟨w.heap.size,2,none⟩=some (.int .i64 m.eld):=by rw [ag];exact Ja ac (by go_simp)
   have z3:W0.cell? ⟨w.heap.size,3,none⟩=some (.int .i64 m.fr.s):=by rw [ag];exact Ja ac (by go_simp)
   have z4:W0.cell? ⟨w.heap.size,4,none⟩=some (.int .i64 m.fr.o):=by rw [ag];exact Ja ac (by go_simp)
   have z5:W0.cell? ⟨w.heap.size,5,none⟩=some (.int .i64 m.fr.n):=by rw [ag];exact Ja ac (by go_simp)
   have z6:W0.cell? ⟨w.heap.size,6,none⟩=some (.int .i64 m.fr.i):=by rw [ag];exact Ja ac (by go_simp)
   have z7:W0.cell? ⟨w.heap.size,7,none⟩=some (.int .i64 m.fr.u):=by rw [ag];exact Ja ac (by go_simp)
   have z8:W0.cell? ⟨w.heap.size,8,none⟩=some (.slice A1 m.first.length c1):=by rw [ag];exact Ja ac (by go_simp)
   have z9:W0.cell? ⟨w.heap.size,9,none⟩=some (.slice A2 m.step.length c2):=by rw [ag];exact Ja ac (by go_simp)
   have z10:W0.cell? ⟨w.heap.size,10,none⟩=some (.slice A3 m.move.length c3):=by rw [ag];exact Ja ac (by go_simp)
   have z11:W0.cell? ⟨w.heap.size,11,none⟩=some (.int .i64 m.sf):=by rw [ag];exact Ja ac (by go_simp)
   have z12:W0.cell? ⟨w.heap.size,12,none⟩=some (.int .i64 m.mf):=by rw [ag];exact Ja ac (by go_simp)
   have hS:∀w',Below W0.heap.size W0 w'->w'.cell? ⟨w.heap.size,0,none⟩=some (.int .u32 m.ver)/\w'.cell? ⟨w.heap.size,1,none⟩=some (.int .u32 m.fro)/\w'.cell? ⟨w.heap.size,2,none⟩=some (.int .i64 m.eld)/\w'.cell? ⟨w.heap.size,3,none⟩=some (.int .i64 m.fr.s)/\w'.cell? ⟨w.heap.size,4,none⟩=some (.int .i64 m.fr.o)/\w'.cell? ⟨w.heap.size,5,none⟩=some (.int .i64 m.fr.n)/\w'.cell? ⟨w.heap.size,6,none⟩=some (.int .i64 m.fr.i)/\w'.cell? ⟨w.heap.size,7,none⟩=some (.int .i64 m.fr.u)/\w'.cell? ⟨w.heap.size,8,none⟩=some (.slice A1 m.first.length c1)/\w'.cell? ⟨w.heap.size,9,none⟩=some (.slice A2 m.step.length c2)/\w'.cell? ⟨w.heap.size,10,none⟩=some (.slice A3 m.move.length c3)/\w'.cell? ⟨w.heap.size,11,none⟩=some (.int .i64 m.sf)/\w'.cell? ⟨w.heap.size,12,none⟩=some (.int .i64 m.mf):=fun w' hb=>⟨Ja hb z0,Ja hb z1,Ja hb z2,Ja hb z3,Ja hb z4,Ja hb z5,Ja hb z6,Ja hb z7,Ja hb z8,Ja hb z9,Ja hb z10,Ja hb z11,Ja hb z12⟩;have HS:=Lib.hid hS;have ar:=hS W0.drew (Jh (Below.refl _ _));clear ag hS z0 z1 z2 z3 z4 z5 z6 z7 z8 z9 z10 z11 z12;refine Kd (fun w'=>w'.cell? ⟨w.heap.size,0,none⟩=some (.int .u32 m.ver)/\w'.cell? ⟨w.heap.size,1,none⟩=some (.int .u32 m.fro)/\w'.cell? ⟨w.heap.size,2,none⟩=some (.int .i64 m.eld)/\w'.cell? ⟨w.heap.size,3,none⟩=some (.int .i64 m.fr.s)/\w'.cell? ⟨w.heap.size,4,none⟩=some (.int .i64 m.fr.o)/\w'.cell? ⟨w.heap.size,5,none⟩=some (.int .i64 m.fr.n)/\w'.cell? ⟨w.heap.size,6,none⟩=some (.int .i64 m.fr.i)/\w'.cell? ⟨w.heap.size,7,none⟩=some (.int .i64 m.fr.u)/\w'.cell? ⟨w.heap.size,8,none⟩=some (.slice A1 m.first.length c1)/\w'.cell? ⟨w.heap.size,9,none⟩=some (.slice A2 m.step.length c2)/\w'.cell? ⟨w.heap.size,10,none⟩=some (.slice A3 m.move.length c3)/\w'.cell? ⟨w.heap.size,11,none⟩=some (.int .i64 m.sf)/\w'.cell? ⟨w.heap.size,12,none⟩=some (.int .i64 m.mf)) 7 1 (by kernel_rfl) (by rfl) ?_;simp only [List.size_toArray,List.length_cons,List.length_nil,Nat.zero_add,Nat.reduceAdd];refine Ji 0 ar ?_;refine Ji 1 ar ?_;refine Ji 2 ar ?_;refine Ji 4 ar ?_;refine Ji 5 ar ?_;refine Kb 3 ?_;refine Jj fun K hK=>?_;go_simp;refine(HMV.out _).mono ?_;rintro r w2 ⟨rfl,aq⟩;dsimp only;have cF:Below W0.heap.size W0 w2:=Jd (Jh (Below.refl _ _)) aq;refine hK _ _ ⟨HS.out w2 cF,?_⟩;clear hK K
   try simp only [Act.put,sa1,sa2,sa3]
   refine Kb 6 ?_;refine Jj fun K hK=>?_;go_simp;refine(HB2.out _ (Jd aC cF)).mono ?_;rintro r w3 ⟨rfl,aM⟩;dsimp only;have cZ:Below W0.heap.size W0 w3:=Jd cF aM;refine hK _ _ ⟨HS.out w3 cZ,?_⟩;clear hK K
   try simp only [Act.put,sa1,sa2,sa3]
   refine Kh (by kernel_rfl) ?_;refine Qx 7 ?_;refine Jj fun K hK=>?_;go_simp;refine hK _ _ ?_;clear hK K
   try simp only [Act.put,sa1,sa2,sa3]
   refine Ki (by kernel_rfl) ?_
   go_wp2_with fail
   go_ret;exact⟨Jm HV.out.symm,Jd aC cZ⟩
  ·have hv:R=e1:=by rw [hR,if_pos h1]
   have t5:(e1 != 0)=true:=by simpa using h1
   clear hR h1;have HV:=Lib.hid hv;clear hv
   go_enter Tryz.func14,Tryz.ntmps14
   go_wp2_with (first|(go_at_call 32;go_loud (refine(HB1.out _ Jb).mono ?_;rintro r w1 ⟨rfl,ac⟩)))
   go_ret;exact⟨Jm HV.out.symm,Jb⟩
def imC (m:Im) (a:ImA):List Value:=[.int .u32 m.ver,.int .u32 m.fro,.int .i64 m.eld,.int .i64 m.fr.s,.int .i64 m.fr.o,.int .i64 m.fr.n,.int .i64 m.fr.i,.int .i64 m.fr.u,.slice a.A1 m.first.length a.c1,.slice a.A2 m.step.length a.c2,.slice a.A3 m.move.length a.c3,.int .i64 m.sf,.int .i64 m.mf]
def ImB (W:World) (g:Nat) (l:List Value):Prop:=∀(o:Nat) (u:Value),l[o]?=some u->W.cell? ⟨g,o,none⟩=some u
theorem ImB.later {W W':World} {g:Nat} {l:List Value} (h:ImB W g l) (hb:Below W.heap.size W W'):ImB W' g l:=fun o u ho=>Ja hb (h o u ho)
theorem ImB.new (W:World) (l:List Value) (t:TypeId):ImB (W.alloc (.cells l.toArray t)) W.heap.size l:=fun o u ho=>(Kw W l.toArray t o).trans (by simpa using ho)
end Go.Proofs.YtdgjplldlfeolaaGreatDoor
