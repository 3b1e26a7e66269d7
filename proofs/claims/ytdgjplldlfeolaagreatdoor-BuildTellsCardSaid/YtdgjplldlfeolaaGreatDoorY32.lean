/- Lemmas. -/
import Derived.Test.YtdgjplldlfeolaaGreatDoorMac
import Derived.Test.YtdgjplldlfeolaaGreatDoorY23
import Derived.Test.YtdgjplldlfeolaaGreatDoorY01
import Derived.Test.YtdgjplldlfeolaaGreatDoorY25
set_option linter.unusedVariables false
set_option linter.unusedSimpArgs false
set_option maxRecDepth 100000
set_option maxHeartbeats 64000000
namespace Go.Proofs.YtdgjplldlfeolaaGreatDoor
open Go.RowKit Go.Sort
theorem Jpj {p:Pr} (h:(Kot p).2≠(0,0,0)):(Kot p).2.2.2≠0:=by
 unfold Kot at h ⊢
 by_cases aN:Qg p=(0,0,0)
 ·rw [if_pos aN] at h ⊢
  rcases Jiu (Xk aN).1 with ⟨res,h1,_⟩|⟨out,m,q,h1,_⟩
  ·rw [h1] at h;exact absurd rfl h
  ·rw [h1];show(22:Int)≠0
   decide
 ·rw [if_neg aN];exact Jxh aN
theorem Jk3 (p:Pr) (a:PrA) (w:World) (hg:Ql w) (hp:Kr w p a) (aw:Ke5 p) (n1:p.ins.length<=1000000) (n2:p.outs.length<=1000000) (n3:p.locals.length<=1000000) (n4:p.eqs.length<=1000000) :
  Calls Tryz.prog 128 #[prV p a] w fun r w'=>r = .returned (fV (Ks p))/\Below w.heap.size w w':=by
 by_cases hO:(Kot p).2=(0,0,0)
 ·exact Jod p a w hg hp aw n1 n2 n3 n4 hO
 ·have h:=Jpz p a w hg hp aw n1 n2 n3 n4 hO;rw [show Ks p=(Kot p).2 by unfold Ks;rw [if_neg hO]];exact h
end Go.Proofs.YtdgjplldlfeolaaGreatDoor
