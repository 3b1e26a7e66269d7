/- Lemmas. -/
import Derived.Test.YtdgjplldlfeolaaGreatDoorZ03
set_option linter.unusedVariables false
set_option linter.unusedSimpArgs false
set_option maxRecDepth 100000
set_option maxHeartbeats 64000000
namespace Go.Proofs.YtdgjplldlfeolaaGreatDoor
open Go.RowKit Go.Sort
theorem Jzv (e:Ex) (l:List Va) (A:Option Addr) (cap B:Nat) (Ae:Option Addr) (ce:Nat) (w:World) (t0 t1 t2:Int) (hk:e.kind=6) (aU:Ex.typL l e.sub=([t0,t1,t2],0)) (fQ:t0=1\/t0=2) (gJ:t1=1\/t1=2) (nQ:t2=1\/t2=2) (dI:e.name.toList.isEmpty=true)
  (av:Q7 e l A cap B Ae ce w) (aF:Xz e l A cap B w) :
  Calls Tryz.prog 139 #[Q6 l A cap B,exV e Ae ce] w fun r w'=>r = .returned (.tuple #[.int .i64 (e.typ l).1,.int .i64 (e.typ l).2])/\Below w.heap.size w w':=by
 have hv:e.typ l=Y2 l e.kind e.n e.name [t0,t1,t2]:=by rw [Ex.typ_eq,aU];rfl
 rw [hk,Y2,if_neg (by rintro⟨h1,h2⟩;simp_all)] at hv;have dS:(Ex.typL l e.sub).1 = [t0,t1,t2]:=by rw [aU]
 have lG:(Ex.typL l e.sub).2=0:=by rw [aU]
 clear aU;unfold Q7 at av;unfold Xz at aF;have q1:(e.kind == 1)=false:=by rw [hk];rfl
 have q2:(e.kind == 2)=false:=by rw [hk];rfl
 have q3:(e.kind == 3)=false:=by rw [hk];rfl
 have q4:(e.kind == 4)=false:=by rw [hk];rfl
 have q5:(e.kind == 5)=false:=by rw [hk];rfl
 have q6:(e.kind == 6)=true:=by rw [hk];rfl
 clear hk;unfold Q6 exV at *
 have dD:∀(p q:Bool),(t0 == 2)=p->(t1 == t2)=q->e.typ l=if (p && q)=true/\(t1=1\/t1=2) then(t1,0) else(0,20):=by
  rintro p q rfl rfl;rw [hv];rfl
 clear hv
 cases a:(t0 == 2)
 ·have hv:e.typ l=(0,20):=by rw [dD _ _ a rfl];rfl
  clear dD;have HV:=Lib.hid hv;clear hv
  go_enter Tryz.func139,Tryz.ntmps139
  go_wp2_with (first|(go_at_call 148;refine(av _ Jb).mono ?_;rintro r w1 ⟨⟨v,rfl,ae⟩,ac⟩;have ⟨ak,af⟩:=aft ac;(try simp at af);have bV:=alt ac;rw [dS] at ae;simp only [List.map_cons,List.map_nil,List.length_cons,List.length_nil,Nat.zero_add,Nat.reduceAdd] at ae;obtain⟨g,gc,rfl,eN,aG,bJ,cg,ah⟩:=Kc ae (by omega);unfold maxLen at cg;have e0:=ah 0 _ rfl;have e1:=ah 1 _ rfl;have e2:=ah 2 _ rfl;clear ah ae)|(go_at_call 149;refine(aF _ Jb).mono ?_;rintro r w1 ⟨rfl,ac⟩;have ⟨ak,af⟩:=aft ac;(try simp at af);have bV:=alt ac;(try have eC:=Nat.lt_of_lt_of_le aG ac.size)))
  refine Jx (by kernel_rfl) (by kernel_rfl) (fun bj=>?_)
  repeat (quiet_step (fail))
  refine wpQuiet_nil ?_;intro wq au;replace au:=qbo au;obtain⟨au,dA,bh⟩:=au;clear bj
  (try simp at bh)
  have oO:=alt au
  go_wp2_with fail
  go_ret2
  exact⟨by rw [HV.out];rfl,Jb⟩
 cases b:(t1 == t2)
 ·have hv:e.typ l=(0,20):=by rw [dD _ _ a b];rfl
  clear dD;have HV:=Lib.hid hv;clear hv
  go_enter Tryz.func139,Tryz.ntmps139
  go_wp2_with (first|(go_at_call 148;refine(av _ Jb).mono ?_;rintro r w1 ⟨⟨v,rfl,ae⟩,ac⟩;have ⟨ak,af⟩:=aft ac;(try simp at af);have bV:=alt ac;rw [dS] at ae;simp only [List.map_cons,List.map_nil,List.length_cons,List.length_nil,Nat.zero_add,Nat.reduceAdd] at ae;obtain⟨g,gc,rfl,eN,aG,bJ,cg,ah⟩:=Kc ae (by omega);unfold maxLen at cg;have e0:=ah 0 _ rfl;have e1:=ah 1 _ rfl;have e2:=ah 2 _ rfl;clear ah ae)|(go_at_call 149;refine(aF _ Jb).mono ?_;rintro r w1 ⟨rfl,ac⟩;have ⟨ak,af⟩:=aft ac;(try simp at af);have bV:=alt ac;(try have eC:=Nat.lt_of_lt_of_le aG ac.size)))
  refine Jx (by kernel_rfl) (by kernel_rfl) (fun bj=>?_)
  repeat (quiet_step (fail))
  refine wpQuiet_nil ?_;intro wq au;replace au:=qbo au;obtain⟨au,dA,bh⟩:=au;clear bj
  (try simp at bh)
  have oO:=alt au
  go_wp2_with fail
  go_ret2
  exact⟨by rw [HV.out];rfl,Jb⟩
 have hv:=dD _ _ a b;clear dD
 rcases gJ with rfl|rfl
 ·replace hv:e.typ l=(1,0):=hv;have HV:=Lib.hid hv;clear hv
  go_enter Tryz.func139,Tryz.ntmps139
  go_wp2_with (first|(go_at_call 148;refine(av _ Jb).mono ?_;rintro r w1 ⟨⟨v,rfl,ae⟩,ac⟩;have ⟨ak,af⟩:=aft ac;(try simp at af);have bV:=alt ac;rw [dS] at ae;simp only [List.map_cons,List.map_nil,List.length_cons,List.length_nil,Nat.zero_add,Nat.reduceAdd] at ae;obtain⟨g,gc,rfl,eN,aG,bJ,cg,ah⟩:=Kc ae (by omega);unfold maxLen at cg;have e0:=ah 0 _ rfl;have e1:=ah 1 _ rfl;have e2:=ah 2 _ rfl;clear ah ae)|(go_at_call 149;refine(aF _ Jb).mono ?_;rintro r w1 ⟨rfl,ac⟩;have ⟨ak,af⟩:=aft ac;(try simp at af);have bV:=alt ac;(try have eC:=Nat.lt_of_lt_of_le aG ac.size)))
  refine Jx (by kernel_rfl) (by kernel_rfl) (fun bj=>?_)
  repeat (quiet_step (fail))
  refine wpQuiet_nil ?_;intro wq au;replace au:=qbo au;obtain⟨au,dA,bh⟩:=au;clear bj
  (try simp at bh)
  have oO:=alt au
  go_wp2_with fail
  go_ret2
  exact⟨by rw [HV.out];rfl,Jb⟩
 ·replace hv:e.typ l=(2,0):=hv;have HV:=Lib.hid hv;clear hv
  go_enter Tryz.func139,Tryz.ntmps139
  go_wp2_with (first|(go_at_call 148;refine(av _ Jb).mono ?_;rintro r w1 ⟨⟨v,rfl,ae⟩,ac⟩;have ⟨ak,af⟩:=aft ac;(try simp at af);have bV:=alt ac;rw [dS] at ae;simp only [List.map_cons,List.map_nil,List.length_cons,List.length_nil,Nat.zero_add,Nat.reduceAdd] at ae;obtain⟨g,gc,rfl,eN,aG,bJ,cg,ah⟩:=Kc ae (by omega);unfold maxLen at cg;have e0:=ah 0 _ rfl;have e1:=ah 1 _ rfl;have e2:=ah 2 _ rfl;clear ah ae)|(go_at_call 149;refine(aF _ Jb).mono ?_;rintro r w1 ⟨rfl,ac⟩;have ⟨ak,af⟩:=aft ac;(try simp at af);have bV:=alt ac;(try have eC:=Nat.lt_of_lt_of_le aG ac.size)))
  refine Jx (by kernel_rfl) (by kernel_rfl) (fun bj=>?_)
  repeat (quiet_step (fail))
  refine wpQuiet_nil ?_;intro wq au;replace au:=qbo au;obtain⟨au,dA,bh⟩:=au;clear bj
  (try simp at bh)
  have oO:=alt au
  go_wp2_with fail
  go_ret2
  exact⟨by rw [HV.out];rfl,Jb⟩
end Go.Proofs.YtdgjplldlfeolaaGreatDoor
