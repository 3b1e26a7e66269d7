/- Lemmas. -/
import Derived.Test.YtdgjplldlfeolaaGreatDoorMac
import Derived.Test.YtdgjplldlfeolaaGreatDoorY14
import Derived.Test.YtdgjplldlfeolaaGreatDoorY08
set_option linter.unusedVariables false
set_option linter.unusedSimpArgs false
set_option maxRecDepth 100000
set_option maxHeartbeats 64000000
namespace Go.Proofs.YtdgjplldlfeolaaGreatDoor
open Go.RowKit Go.Sort
theorem Krc {W w1:World} (hb:Below W.drew.heap.size W.drew w1):∀b o,b<W.heap.size->w1.cell? ⟨b,o,none⟩=W.cell? ⟨b,o,none⟩:=fun b o h=>(hb.cell (p:=⟨b,o,none⟩) h).trans rfl
theorem Ks8 (e:Ex) (Ae:Option Addr) (ce:Nat) (l:List Va) (A:Option Addr) (cap:Nat) (w:World) (he:Jt w e Ae ce) (hl:Ju w l A cap) (hs:∀v∈l,v.name.size<=maxLen) (hn:l.length<=1000000) :
  Calls Tryz.prog 127 #[exV e Ae ce,.slice A l.length cap] w fun r w'=>r = .returned (.tuple #[.int .i64 (ofF e l).1,.int .i64 (ofF e l).2])/\Below w.heap.size w w':=by
 have aB:=fun W h=>Jnc e Ae ce W (he.later h);have aO:=fun W h=>Jtr l A cap hs hn W h;clear hs
 by_cases hr:e.right=0
 ·have hf:e.formed=true:=by
   unfold Ex.right at hr
   by_cases h1:120<e.count 121
   ·rw [if_pos h1] at hr;omega
   ·rw [if_neg h1] at hr
    by_cases h2:12<e.depth
    ·rw [if_pos h2] at hr;omega
    ·rw [if_neg h2] at hr
     by_cases h3:e.formed=true
     ·exact h3
     ·rw [if_neg h3] at hr;omega
  have ix:=fun B W h1 h2=>Juz e hf l A cap B l.length Ae ce W h1 h2;have hv:ofF e l=e.typ l:=by unfold ofF;rw [if_neg Ua]
  have h1:(e.right != 0)=false:=Fp;clear hr hf;have HV:=Nf hv;clear hv;unfold exV Q6 at *
  go_enter Tryz.func127,Tryz.ntmps127
  go_wp2_with (first|(go_at_call 21;refine mo (aB _ Jb) fun w1 ac ak af bV=>?_;(try simp at af)))
  go_region_with (first|(go_at_call 138;go_loud (refine(aO _ (hl.later Jb)).mono ?_;rintro r wb ⟨⟨B,rfl,hB,kg⟩,aH⟩;have el:∀b o,b<w1.heap.size->wb.cell? ⟨b,o,none⟩=w1.cell? ⟨b,o,none⟩:=Krc aH;have dH:w1.heap.size<=wb.heap.size:=aH.size;have cA:=lt0 w wb))|(go_at_call 139;refine(ix _ _ (he.later Jb) ⟨hl.later Jb,Ub8⟩).mono ?_;rintro r wc ⟨rfl,bU⟩))
  all_goals
   go_wp2_with fail
   go_ret2
   exact⟨Vb,Jb⟩
 ·have hv:ofF e l=(0,e.right):=by unfold ofF;rw [if_pos hr]
  have h1:(e.right != 0)=true:=Fp;clear hr;have HV:=Nf hv;clear hv;unfold exV at *
  go_enter Tryz.func127,Tryz.ntmps127
  go_wp2_with (first|(go_at_call 21;refine mo (aB _ Jb) fun w1 ac ak af bV=>?_;(try simp at af)))
  go_ret2
  exact⟨Vb,Jb⟩
theorem Jd6 (a b c:Int) (w:World):(Op.equalIn 10000 32 (.agg #[.int .i64 a,.int .i64 b,.int .i64 c]) (.agg #[.int .i64 a,.int .i64 b,.int .i64 c])).run Tryz.prog w = .ok true w:=by
 have hS:Tryz.prog.underlying 32=some (.struct (Tryz.prog.fieldsOf 32)):=Ue;have hp:Tryz.prog.stoodInHeld 32=false:=Ue;rw [show(10000:Nat)=9999+1 from rfl,run_equalIn_agg w 9999 32 _ _ hS hp];simp only [Program.fieldsOf,Tryz.underlying32];exact Uc
end Go.Proofs.YtdgjplldlfeolaaGreatDoor
