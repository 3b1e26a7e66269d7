/- Lemmas. -/
import Derived.Test.YtknfcamdfdfoeaaGreatDoorMac
import Derived.Test.YtknfcamdfdfoeaaGreatDoorZ30
set_option linter.unusedVariables false
set_option linter.unusedSimpArgs false
set_option maxRecDepth 100000
set_option maxHeartbeats 64000000
namespace Go.Proofs.YtknfcamdfdfoeaaGreatDoor
open Go.RowKit Go.Sort
theorem Jqe (m:Im) (a:ImA) (w:World) (hm:Jd5 w m a) (aw:Jsj m) :
  Calls Tryz.prog 61 #[imV m a] w fun r w'=>r = .returned (.int .i64 m.wrong)/\Below w.heap.size w w':=by
 have ac:=fun W (h:Below w.heap.size w W)=>Jmr m.step a.A2 a.c2 m.fr m.sf W (hm.step.later h) aw.step;have aq:=fun W (h:Below w.heap.size w W)=>Jmr m.move a.A3 a.c3 m.moves m.mf W (hm.move.later h) aw.move;have hmv:=fun W=>Jtt m a W;have ak:=hm.first.1;have kE:=hm.move.1;obtain⟨R,hR⟩:∃R,R=m.wrong:=⟨_,rfl⟩;rw [<-hR];unfold Im.wrong at hR;obtain⟨A1,c1,A2,c2,A3,c3⟩:=a;unfold imV at *;unfold frV at ac aq hmv;dsimp only at *;generalize Jcj m.step m.fr m.sf=e1 at *;generalize Jcj m.move m.moves m.mf=e2 at *;generalize m.moves=mv at *;have HB1:=Nf ac;have HB2:=Nf aq;have HMV:=Nf hmv;clear hm aw ac aq hmv
 by_cases a1:m.ver=0
 ·have hv:R=1:=by rw [hR,if_pos (.inl a1)]
  have t1:(m.ver == 0)=true:=by simpa using a1
  exact Ub4
 have t1:(m.ver == 0)=false:=by simpa using a1
 by_cases a2:m.ver<=m.fro
 ·have hv:R=1:=by rw [hR,if_pos (.inr (.inl a2))]
  exact Ub4
 by_cases a3:m.eld<0
 ·have hv:R=1:=by rw [hR,if_pos (.inr (.inr (.inl a3)))]
  exact Ub4
 by_cases a4:16<m.eld
 ·have hv:R=1:=by rw [hR,if_pos (.inr (.inr (.inr a4)))]
  exact Ub4
 rw [if_neg Ua] at hR
 by_cases b1:m.fr.o≠m.fr.n
 ·have hv:R=1:=by rw [hR,if_pos (.inl b1)]
  have t2:(m.fr.o != m.fr.n)=true:=by simpa using b1
  clear hR a1 b1;exact Uci
 have t2:(m.fr.o != m.fr.n)=false:=by simpa using b1
 by_cases b2:(m.first.length:Int)≠m.fr.n
 ·have hv:R=1:=by rw [hR,if_pos (.inr b2)]
  have t3:((m.first.length:Int) != m.fr.n)=true:=by simpa using b2
  clear hR a1 b1 b2;exact Uci
 have t3:((m.first.length:Int) != m.fr.n)=false:=by simpa using b2
 rw [if_neg Ua] at hR;clear a1 b1 b2
 by_cases f0:m.fro=0
 ·have t4:(m.fro == 0)=true:=by simpa using f0
  by_cases d1:0<m.eld
  ·have hv:R=1:=by rw [hR,if_pos ⟨f0,.inl d1⟩]
   clear hR f0;exact Uci
  by_cases d2:0<m.move.length
  ·have hv:R=1:=by rw [hR,if_pos ⟨f0,.inr d2⟩]
   have d2':(0:Int)<(m.move.length:Int):=Ua;clear hR f0 d2;exact Uci
  have d2':¬(0:Int)<(m.move.length:Int):=Ua;rw [if_neg (fun h=>Ua)] at hR;clear f0 d2;exact Tj
 ·have t4:(m.fro == 0)=false:=by simpa using f0
  rw [if_neg (fun h=>f0 h.1)] at hR;clear f0;exact Tj
end Go.Proofs.YtknfcamdfdfoeaaGreatDoor
