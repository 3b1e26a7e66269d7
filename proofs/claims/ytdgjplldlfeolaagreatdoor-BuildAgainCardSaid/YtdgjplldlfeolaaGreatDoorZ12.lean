/- Lemmas. -/
import Derived.RegionTactic
import Derived.BigRegion
import Derived.Test.YtdgjplldlfeolaaGreatDoorZ01
set_option linter.unusedVariables false
set_option linter.unusedSimpArgs false
set_option maxRecDepth 100000
set_option maxHeartbeats 64000000
namespace Go.Proofs.YtdgjplldlfeolaaGreatDoor
open Go.RowKit Go.Sort
theorem Jyd (l:List Va) (A:Option Addr) (cap:Nat) (hn:l.length<=1000000) (e:Ex) (hf:e.formed=true) (ih:∀x∈e.sub,OfP l A cap x) (Ae:Option Addr) (ce:Nat) (ck:Int) (cs:ByteArray) (w:World) (hg:Ql w) (he:Jt w e Ae ce) (hl:Ju w l A cap)
  (hk:e.kind=8) :
  Calls Tryz.prog 135 #[.slice A l.length cap,exV e Ae ce,.agg #[.int .i64 ck,.string cs]] w fun r w'=>r = .returned (.int .i64 (e.clk l (ck,cs)))/\Below w.heap.size w w':=by
 have rj:=fun W h=>Jhu l A cap e.name (K9 ck cs 1 e.name) W (hg.later h) (hl.later h) hn;have eF:=fun W h=>Ji6 l A cap e ih Ae ce 0 ⟨#[]⟩ W (hg.later h) (he.later h) (hl.later h);have ho:Jac l e.kind e.name ck cs=Jaw l e.name (K9 ck cs 1 e.name):=by unfold Jac;rw [hk];simp
 have bC:Jb3 e.kind e.name (ck,cs)=(0,⟨#[]⟩):=by unfold Jb3;rw [if_pos (by omega)]
 have bd:Ja0 e.kind e.name (ck,cs)=(0,⟨#[]⟩):=by unfold Ja0;rw [if_pos (by omega)]
 have t3:(e.kind == 3)=false:=by rw [hk];rfl
 have t8:(e.kind == 8)=true:=by rw [hk];rfl
 have t9:(e.kind == 9)=false:=by rw [hk];rfl
 have fM:=Jbt;have dp:=fun w=>Zt ck cs 1 e.name w;obtain⟨a0,a1⟩:=hg;have eC:0<w.heap.size:=block_lt_of_cell a0;clear hk hf ih;unfold exV;generalize K9 ck cs 1 e.name=bq at *;generalize sq:Jaw l e.name bq=tq at *
 by_cases hz:tq=0
 ·subst hz;have hv:=Jgg (c:=(ck,cs)) ho;rw [bC,bd] at hv;clear ho bC bd sq;have HV:=Lib.hid hv;clear hv
  go_enter Tryz.func135,Tryz.ntmps135
  go_wp2_with fail
  go_region
  all_goals
   go_wp2_with fail
   refine Jx (by kernel_rfl) (by kernel_rfl) (fun bj=>?_)
   repeat (quiet_step ((first|(go_at_call 144;exact Calls.regrown_of (rj _ Jb)))))
   refine wpQuiet_nil ?_;intro wq au;replace au:=qbo au;obtain⟨au,dA,bh⟩:=au;clear bj
   (try simp at bh)
   (try have ox:0<wq.heap.size:=by omega);(try have lI:=ltA w 3 wq)
   go_wp2_with (first|(go_at_call 145;refine(eF _ Jb).mono ?_;rintro r w1 ⟨rfl,ac⟩;have ⟨ak,af⟩:=aft ac;(try simp at af);(try have lH:=ltA w 3 w1);(try have go:0<w1.heap.size:=by omega)))
   go_ret;exact⟨Jm HV.out.symm,Jb⟩
 ·have hv:=Jgh (c:=(ck,cs)) ho hz;have t1:(tq != 0)=true:=by simpa using hz
  clear ho bC bd sq hz;have HV:=Lib.hid hv;clear hv
  go_enter Tryz.func135,Tryz.ntmps135
  go_wp2_with fail
  go_region
  all_goals
   go_wp2_with fail
   refine Jx (by kernel_rfl) (by kernel_rfl) (fun bj=>?_)
   repeat (quiet_step ((first|(go_at_call 144;exact Calls.regrown_of (rj _ Jb)))))
   refine wpQuiet_nil ?_;intro wq au;replace au:=qbo au;obtain⟨au,dA,bh⟩:=au;clear bj
   (try simp at bh)
   (try have ox:0<wq.heap.size:=by omega);(try have lI:=ltA w 3 wq)
   go_wp2_with fail
   go_ret;exact⟨Jm HV.out.symm,Jb⟩
theorem Juj (l:List Va) (A:Option Addr) (cap:Nat) (hn:l.length<=1000000) (e:Ex) (hf:e.formed=true) (ih:∀x∈e.sub,OfP l A cap x) (Ae:Option Addr) (ce:Nat) (ck:Int) (cs:ByteArray) (w:World) (hg:Ql w) (he:Jt w e Ae ce) (hl:Ju w l A cap)
  (hk:e.kind=9) :
  Calls Tryz.prog 135 #[.slice A l.length cap,exV e Ae ce,.agg #[.int .i64 ck,.string cs]] w fun r w'=>r = .returned (.int .i64 (e.clk l (ck,cs)))/\Below w.heap.size w w':=by
 have rj:=fun W h=>Jhu l A cap e.name (K9 ck cs 2 e.name) W (hg.later h) (hl.later h) hn;have eF:=fun W h=>Ji6 l A cap e ih Ae ce 0 ⟨#[]⟩ W (hg.later h) (he.later h) (hl.later h);have ho:Jac l e.kind e.name ck cs=Jaw l e.name (K9 ck cs 2 e.name):=by unfold Jac;rw [hk];simp
 have bC:Jb3 e.kind e.name (ck,cs)=(0,⟨#[]⟩):=by unfold Jb3;rw [if_pos (by omega)]
 have bd:Ja0 e.kind e.name (ck,cs)=(0,⟨#[]⟩):=by unfold Ja0;rw [if_pos (by omega)]
 have t3:(e.kind == 3)=false:=by rw [hk];rfl
 have t8:(e.kind == 8)=false:=by rw [hk];rfl
 have t9:(e.kind == 9)=true:=by rw [hk];rfl
 have fM:=Jbt;have dp:=fun w=>Zt ck cs 2 e.name w;obtain⟨a0,a1⟩:=hg;have eC:0<w.heap.size:=block_lt_of_cell a0;clear hk hf ih;unfold exV;generalize K9 ck cs 2 e.name=bq at *;generalize sq:Jaw l e.name bq=tq at *
 by_cases hz:tq=0
 ·subst hz;have hv:=Jgg (c:=(ck,cs)) ho;rw [bC,bd] at hv;clear ho bC bd sq;have HV:=Lib.hid hv;clear hv
  go_enter Tryz.func135,Tryz.ntmps135
  go_wp2_with fail
  go_region
  all_goals
   go_wp2_with fail
   refine Jx (by kernel_rfl) (by kernel_rfl) (fun bj=>?_)
   repeat (quiet_step ((first|(go_at_call 144;exact Calls.regrown_of (rj _ Jb)))))
   refine wpQuiet_nil ?_;intro wq au;replace au:=qbo au;obtain⟨au,dA,bh⟩:=au;clear bj
   (try simp at bh)
   (try have ox:0<wq.heap.size:=by omega);(try have lI:=ltA w 3 wq)
   go_wp2_with (first|(go_at_call 145;refine(eF _ Jb).mono ?_;rintro r w1 ⟨rfl,ac⟩;have ⟨ak,af⟩:=aft ac;(try simp at af);(try have lH:=ltA w 3 w1);(try have go:0<w1.heap.size:=by omega)))
   go_ret;exact⟨Jm HV.out.symm,Jb⟩
 ·have hv:=Jgh (c:=(ck,cs)) ho hz;have t1:(tq != 0)=true:=by simpa using hz
  clear ho bC bd sq hz;have HV:=Lib.hid hv;clear hv
  go_enter Tryz.func135,Tryz.ntmps135
  go_wp2_with fail
  go_region
  all_goals
   go_wp2_with fail
   refine Jx (by kernel_rfl) (by kernel_rfl) (fun bj=>?_)
   repeat (quiet_step ((first|(go_at_call 144;exact Calls.regrown_of (rj _ Jb)))))
   refine wpQuiet_nil ?_;intro wq au;replace au:=qbo au;obtain⟨au,dA,bh⟩:=au;clear bj
   (try simp at bh)
   (try have ox:0<wq.heap.size:=by omega);(try have lI:=ltA w 3 wq)
   go_wp2_with fail
   go_ret;exact⟨Jm HV.out.symm,Jb⟩
end Go.Proofs.YtdgjplldlfeolaaGreatDoor
