/- Lemmas. -/
import Derived.Test.YtdgjplldlfeolaaGreatDoorMac
import Derived.Test.YtdgjplldlfeolaaGreatDoorY01
set_option linter.unusedVariables false
set_option linter.unusedSimpArgs false
set_option maxRecDepth 100000
set_option maxHeartbeats 64000000
namespace Go.Proofs.YtdgjplldlfeolaaGreatDoor
open Go.RowKit Go.Sort
theorem Jzv (e:Ex) (l:List Va) (A:Option Addr) (cap B:Nat) (Ae:Option Addr) (ce:Nat) (w:World) (t0 t1 t2:Int) (hk:e.kind=6) (aU:Ex.typL l e.sub=([t0,t1,t2],0)) (fQ:t0=1\/t0=2) (gJ:t1=1\/t1=2) (nQ:t2=1\/t2=2) (dI:e.name.toList.isEmpty=true)
  (av:Q7 e l A cap B Ae ce w) (aF:Xz e l A cap B w) :
  Calls Tryz.prog 139 #[Q6 l A cap B,exV e Ae ce] w fun r w'=>r = .returned (.tuple #[.int .i64 (e.typ l).1,.int .i64 (e.typ l).2])/\Below w.heap.size w w':=by
 have hv:e.typ l=Y2 l e.kind e.n e.name [t0,t1,t2]:=Lp;rw [hk,Y2,if_neg Ll] at hv;have dS:(Ex.typL l e.sub).1 = [t0,t1,t2]:=F5;have lG:(Ex.typL l e.sub).2=0:=F5;clear aU;unfold Q7 at av;unfold Xz at aF;have q1:(e.kind == 1)=false:=Uk;have q2:(e.kind == 2)=false:=Uk;have q3:(e.kind == 3)=false:=Uk;have q4:(e.kind == 4)=false:=Uk;have q5:(e.kind == 5)=false:=Uk;have q6:(e.kind == 6)=true:=Uk;clear hk;unfold Q6 exV at *
 have dD:∀(p q:Bool),(t0 == 2)=p->(t1 == t2)=q->e.typ l=if (p && q)=true/\(t1=1\/t1=2) then(t1,0) else(0,20):=by
  rintro p q rfl rfl;rw [hv];rfl
 clear hv
 cases a:(t0 == 2)
 ·have hv:e.typ l=(0,20):=by rw [dD _ _ a rfl];rfl
  exact Tw
 cases b:(t1 == t2)
 ·have hv:e.typ l=(0,20):=by rw [dD _ _ a b];rfl
  exact Tw
 have hv:=dD _ _ a b;clear dD
 rcases gJ with rfl|rfl
 ·replace hv:e.typ l=(1,0):=hv;exact Tx
 ·replace hv:e.typ l=(2,0):=hv;exact Tx
end Go.Proofs.YtdgjplldlfeolaaGreatDoor
