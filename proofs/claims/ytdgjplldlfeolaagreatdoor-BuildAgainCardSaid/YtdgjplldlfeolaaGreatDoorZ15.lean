/- Lemmas. -/
import Derived.RegionTactic
import Derived.BigRegion
import Derived.Test.YtdgjplldlfeolaaGreatDoorZ01
set_option linter.unusedVariables false
set_option linter.unusedSimpArgs false
set_option maxRecDepth 100000
set_option maxHeartbeats 64000000
namespace Go.Proofs.YtdgjplldlfeolaaGreatDoor
open Go.RowKit Go.Sort
theorem Jy4 (l:List Va) (A:Option Addr) (cap:Nat) (hn:l.length<=1000000) (e:Ex) (hf:e.formed=true) (ih:∀x∈e.sub,OfP l A cap x) (Ae:Option Addr) (ce:Nat) (ck:Int) (cs:ByteArray) (w:World) (hg:Ql w) (he:Jt w e Ae ce) (hl:Ju w l A cap)
  (hk:e.kind=3) :
  Calls Tryz.prog 135 #[.slice A l.length cap,exV e Ae ce,.agg #[.int .i64 ck,.string cs]] w fun r w'=>r = .returned (.int .i64 (e.clk l (ck,cs)))/\Below w.heap.size w w':=by
 have ap:=fun W h=>Jg9 l A cap e.name W (hl.later h) hn;have eF:=fun c s W h=>Ji6 l A cap e ih Ae ce c s W (hg.later h) (he.later h) (hl.later h);have bC:Jb3 e.kind e.name (ck,cs)=(ck,cs):=by unfold Jb3;rw [if_neg (by omega),if_neg (by omega)]
 have bd:Ja0 e.kind e.name (ck,cs)=(ck,cs):=by unfold Ja0;rw [if_neg (by omega),if_neg (by omega)]
 have t3:(e.kind == 3)=true:=by rw [hk];rfl
 have fM:=Jbt;clear hf ih;unfold exV
 cases jS:Xb l e.name with
 | none=>
  have ho:Jac l e.kind e.name ck cs=19:=by unfold Jac;rw [if_pos hk,jS]
  rw [jS] at ap;have hv:=Jgh (c:=(ck,cs)) ho (by omega);clear jS ho bC bd hk;have HV:=Lib.hid hv;clear hv;unfold fcV vaV Jh8 at ap;dsimp only at ap
  go_enter Tryz.func135,Tryz.ntmps135
  go_wp2_with fail
  go_region
  all_goals
   go_wp2_with (first|(go_at_call 134;refine(ap _ Jb).mono ?_;rintro r w1 ⟨rfl,ac⟩;have ⟨ak,af⟩:=aft ac;(try simp at af);(try have bV:=lt0 w w1);(try have gq:=ltA w 1 w1);(try have ow:=ltA w 2 w1);(try have ns:=lt0 wr w1);(try have nt:=ltA wr 1 w1);(try have lH:=ltA w 3 w1);(try have go:0<w1.heap.size:=by omega)))
   go_ret;exact⟨Jm HV.out.symm,Jb⟩
 | some v=>
  rw [jS] at ap;have dp:=fun w=>Zt v.ck v.cn ck cs w;unfold fcV vaV at ap;dsimp only at ap
  cases hq:K9 v.ck v.cn ck cs
  ·rw [hq] at dp;have ho:Jac l e.kind e.name ck cs=21:=by unfold Jac;rw [if_pos hk,jS];simp only [hq];rfl
   have hv:=Jgh (c:=(ck,cs)) ho (by simp);clear jS ho bC bd hq hk;have HV:=Lib.hid hv;clear hv
   go_enter Tryz.func135,Tryz.ntmps135
   go_wp2_with fail
   go_region
   all_goals
    go_wp2_with (first|(go_at_call 134;refine(ap _ Jb).mono ?_;rintro r w1 ⟨rfl,ac⟩;have ⟨ak,af⟩:=aft ac;(try simp at af);(try have bV:=lt0 w w1);(try have gq:=ltA w 1 w1);(try have ow:=ltA w 2 w1);(try have ns:=lt0 wr w1);(try have nt:=ltA wr 1 w1);(try have lH:=ltA w 3 w1);(try have go:0<w1.heap.size:=by omega)))
    go_ret;exact⟨Jm HV.out.symm,Jb⟩
  ·rw [hq] at dp;have ho:Jac l e.kind e.name ck cs=0:=by unfold Jac;rw [if_pos hk,jS];simp only [hq];rfl
   have hv:=Jgg (c:=(ck,cs)) ho;rw [bC,bd] at hv;clear jS ho bC bd hq hk;have HV:=Lib.hid hv;clear hv
   go_enter Tryz.func135,Tryz.ntmps135
   go_wp2_with fail
   go_region
   all_goals
    go_wp2_with (first|(go_at_call 134;refine(ap _ Jb).mono ?_;rintro r w1 ⟨rfl,ac⟩;have ⟨ak,af⟩:=aft ac;(try simp at af);(try have bV:=lt0 w w1);(try have gq:=ltA w 1 w1);(try have ow:=ltA w 2 w1);(try have ns:=lt0 wr w1);(try have nt:=ltA wr 1 w1);(try have lH:=ltA w 3 w1);(try have go:0<w1.heap.size:=by omega))|(go_at_call 145;refine(eF _ _ _ Jb).mono ?_;rintro r w1 ⟨rfl,ac⟩;have ⟨ak,af⟩:=aft ac;(try simp at af);(try have bV:=lt0 w w1);(try have gq:=ltA w 1 w1);(try have ow:=ltA w 2 w1);(try have ns:=lt0 wr w1);(try have nt:=ltA wr 1 w1);(try have lH:=ltA w 3 w1);(try have go:0<w1.heap.size:=by omega)))
    go_ret;exact⟨Jm HV.out.symm,Jb⟩
end Go.Proofs.YtdgjplldlfeolaaGreatDoor
