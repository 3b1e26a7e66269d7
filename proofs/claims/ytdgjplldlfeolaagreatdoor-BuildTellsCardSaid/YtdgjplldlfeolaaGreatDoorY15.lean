/- Lemmas. -/
import Derived.Test.YtdgjplldlfeolaaGreatDoorMac
import Derived.Test.YtdgjplldlfeolaaGreatDoorY12
import Derived.Deep.RegionLaw
set_option linter.unusedVariables false
set_option linter.unusedSimpArgs false
set_option maxRecDepth 100000
set_option maxHeartbeats 64000000
namespace Go.Proofs.YtdgjplldlfeolaaGreatDoor
open Go.RowKit Go.Sort
def frV (f:Fr):Value:= .agg #[.int .i64 f.s,.int .i64 f.o,.int .i64 f.n,.int .i64 f.i,.int .i64 f.u]
theorem Jyr (n m:Int) (w:World):Calls Tryz.prog 94 #[.int .i64 n,.int .i64 m] w fun r w'=>r = .returned (.bool (inB n m))/\Below w.heap.size w w':=by
 by_cases h0:0<=n
 ·by_cases h1:n<=m
  ·have hv:inB n m=true:=by unfold inB;simp [h0,h1]
   exact Ua8
  ·have hv:inB n m=false:=by unfold inB;simp [h1]
   exact Ua8
 ·have hv:inB n m=false:=by unfold inB;simp [h0]
  exact Ua8
theorem Jt4 (f:Fr) (w:World):Calls Tryz.prog 56 #[frV f] w fun r w'=>r = .returned (.int .i64 (if f.good=true then 0 else 1))/\Below w.heap.size w w':=by
 have dV:=fun n m W=>Jyr n m W;obtain⟨s,o,n,i,u⟩:=f;obtain⟨R,hR⟩:∃R:Int,R=if (Fr.mk s o n i u).good=true then 0 else 1:=⟨_,rfl⟩;rw [<-hR];unfold Fr.good at hR;unfold frV;dsimp only at *
 cases h1:inB s 24
 ·rw [h1] at hR;simp only [Bool.false_and,Bool.false_eq_true,if_false] at hR;have HV:=Nf hR;clear hR
  go_enter Tryz.func56,Tryz.ntmps56
  go_wp2_with (first|(go_at_call 94;refine mo (dV _ _ _) fun w1 ac ak af bV=>?_;(try simp at af);(try have bV:=lt0 w w1);(try have gq:=ltA w 1 w1);(try have ow:=ltA w 2 w1);(try have ns:=lt0 wr w1);(try have nt:=ltA wr 1 w1)))
  exact Uc3
 cases h2:inB o 16
 ·rw [h1,h2] at hR;exact Bk
 cases h3:inB n 16
 ·rw [h1,h2,h3] at hR;exact Bk
 cases h4:inB i 8
 ·rw [h1,h2,h3,h4] at hR;exact Bk
 cases h5:inB u 8
 all_goals
  rw [h1,h2,h3,h4,h5] at hR;simp only [Bool.true_and,Bool.and_false,Bool.and_true,Bool.false_eq_true,if_false,if_true] at hR;have HV:=Nf hR;clear hR
  go_enter Tryz.func56,Tryz.ntmps56
  go_wp2_with (first|(go_at_call 94;refine mo (dV _ _ _) fun w1 ac ak af bV=>?_;(try simp at af);(try have bV:=lt0 w w1);(try have gq:=ltA w 1 w1);(try have ow:=ltA w 2 w1);(try have ns:=lt0 wr w1);(try have nt:=ltA wr 1 w1)))
  go_ret;exact⟨Jm HV.out.symm,Jb⟩
theorem Jsq (op:Int) (f:Fr) (w:World):Calls Tryz.prog 96 #[.int .i64 op,frV f] w fun r w'=>r = .returned (.agg #[.int .i64 (Ky op),.int .i64 (Kan op),.int .i64 (Xn op f)])/\Below w.heap.size w w':=by
 obtain⟨s,o,n,i,u⟩:=f;unfold frV;dsimp only
 rcases Jul op with h|rfl|rfl|rfl|rfl|rfl|rfl|rfl|rfl|rfl|rfl|rfl
 ·obtain⟨t1,t2,t3,t4,t5,t6,t7,t8,t9,t10,t11⟩:=h
  have hv:Ky op=0/\Kan op=0/\Xn op ⟨s,o,n,i,u⟩ = -1:=by
   simp only [beq_eq_false_iff_ne,ne_eq] at *;unfold Ky Kan Xn;refine⟨by rw [if_neg Ua,if_neg Ua],by rw [if_neg Ua],by rw [if_neg Ua,if_neg Ua,if_neg Ua,if_neg Ua,if_neg Ua]⟩
  obtain⟨v1,v2,v3⟩:=hv;rw [v1,v2,v3];clear v1 v2 v3
  go_enter Tryz.func96,Tryz.ntmps96
  go_wp2_with fail
  refine Nv (v:= .agg #[.int .i64 0,.int .i64 0,.int .i64 (-1)]) U4 rfl ⟨rfl,Gy⟩
 all_goals
  go_enter Tryz.func96,Tryz.ntmps96
  go_wp2_with fail
 ·refine Nv (v:= .agg #[.int .i64 0,.int .i64 1,.int .i64 (-1)]) U4 rfl ⟨Fc,Gy⟩
 ·refine Nv (v:= .agg #[.int .i64 0,.int .i64 1,.int .i64 s]) U4 rfl ⟨Fc,Gy⟩
 ·refine Nv (v:= .agg #[.int .i64 1,.int .i64 0,.int .i64 s]) U4 rfl ⟨Fc,Gy⟩
 ·refine Nv (v:= .agg #[.int .i64 0,.int .i64 1,.int .i64 o]) U4 rfl ⟨Fc,Gy⟩
 ·refine Nv (v:= .agg #[.int .i64 1,.int .i64 0,.int .i64 n]) U4 rfl ⟨Fc,Gy⟩
 ·refine Nv (v:= .agg #[.int .i64 0,.int .i64 1,.int .i64 i]) U4 rfl ⟨Fc,Gy⟩
 ·refine Nv (v:= .agg #[.int .i64 1,.int .i64 0,.int .i64 u]) U4 rfl ⟨Fc,Gy⟩
 ·refine Nv (v:= .agg #[.int .i64 1,.int .i64 1,.int .i64 (-1)]) U4 rfl ⟨Fc,Gy⟩
 ·refine Nv (v:= .agg #[.int .i64 2,.int .i64 1,.int .i64 (-1)]) U4 rfl ⟨Fc,Gy⟩
 ·refine Nv (v:= .agg #[.int .i64 0,.int .i64 0,.int .i64 (-1)]) U4 rfl ⟨Fc,Gy⟩
 ·refine Nv (v:= .agg #[.int .i64 1,.int .i64 0,.int .i64 (-1)]) U4 rfl ⟨Fc,Gy⟩
end Go.Proofs.YtdgjplldlfeolaaGreatDoor
