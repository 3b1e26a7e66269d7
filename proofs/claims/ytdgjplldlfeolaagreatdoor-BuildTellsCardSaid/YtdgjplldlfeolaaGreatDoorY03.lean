/- Lemmas. -/
import Derived.Test.YtdgjplldlfeolaaGreatDoorMac
import Derived.RegionTactic
import Derived.BigRegion
import Derived.Test.YtdgjplldlfeolaaGreatDoorY00
set_option linter.unusedVariables false
set_option linter.unusedSimpArgs false
set_option maxRecDepth 100000
set_option maxHeartbeats 64000000
namespace Go.Proofs.YtdgjplldlfeolaaGreatDoor
open Go.RowKit Go.Sort
theorem Jwu (l:List Va) (A:Option Addr) (cap:Nat) (hn:l.length<=1000000) (e:Ex) (hf:e.formed=true) (ih:∀x∈e.sub,OfP l A cap x) (Ae:Option Addr) (ce:Nat) (ck:Int) (cs:ByteArray) (w:World) (hg:Ql w) (he:Jt w e Ae ce) (hl:Ju w l A cap)
  (hk:e.kind=10) :
  Calls Tryz.prog 135 #[.slice A l.length cap,exV e Ae ce,.agg #[.int .i64 ck,.string cs]] w fun r w'=>r = .returned (.int .i64 (e.clk l (ck,cs)))/\Below w.heap.size w w':=by
 have ai:=Jfj hf hk;have rj:=fun W h=>Jhu l A cap e.name (K9 ck cs 0 ⟨#[]⟩) W (hg.later h) (hl.later h) hn;have ho:Jac l e.kind e.name ck cs=Jaw l e.name (K9 ck cs 0 ⟨#[]⟩):=by unfold Jac;rw [hk];simp
 have bC:Jb3 e.kind e.name (ck,cs)=(1,e.name):=by unfold Jb3;rw [hk];simp
 have bd:Ja0 e.kind e.name (ck,cs)=(2,e.name):=by unfold Ja0;rw [hk];simp
 obtain⟨x,hx⟩:∃x,e.sub[0]?=some x:=⟨_,Ng Ua⟩;obtain⟨y,hy⟩:∃y,e.sub[1]?=some y:=⟨_,Ng Ua⟩
 have aT:e.sub = [x,y]:=by
  match hm:e.sub,ai with
  | [u,v],_=>
   rw [hm] at hx hy;simp at hx hy;rw [hx,hy]
 have bO:Ex.clkL l e.sub (1,e.name) (2,e.name)=if x.clk l (1,e.name)≠0 then x.clk l (1,e.name) else y.clk l (2,e.name):=by
  rw [aT];simp only [Ex.clkL]
  split
  ·exact Gp
  ·split
   ·exact Gp
   ·rename_i h;omega
 obtain⟨b,off,X,cx,rfl,c0,c1,c2,c3,dT⟩:=he.get hx;obtain⟨b',off',Y,cy,gr,d0,d1,d2,d3,oN⟩:=he.get hy;simp only [Option.some.injEq,Addr.mk.injEq,and_true] at gr;obtain⟨rfl,rfl⟩:=gr;simp only [Nat.zero_mul,Nat.one_mul,Nat.add_zero] at c0 c1 c2 c3 d0 d1 d2 d3;have ihx:=fun W h=>ih x (Ni hx) X cx 1 e.name W (hg.later h) (dT.later h) (hl.later h);have ihy:=fun W h=>ih y (Ni hy) Y cy 2 e.name W (hg.later h) (oN.later h) (hl.later h);have t3:(e.kind == 3)=false:=Uk;have t8:(e.kind == 8)=false:=Uk;have t9:(e.kind == 9)=false:=Uk;have t10:(e.kind == 10)=true:=Uk;have l0:0<e.sub.length:=Ua;have l2:1<e.sub.length:=Ua;have l1:(1:Int)<(e.sub.length:Int):=Ua;have fM:=Jbt;have dp:=fun w=>Zt ck cs 0 ⟨#[]⟩ w;obtain⟨a0,a1⟩:=hg;have eC:0<w.heap.size:=Nu a0;have gt:b<w.heap.size:=Nu c0;have hbz4:b<w.heap.size+4:=Ua;have hbz3:b<w.heap.size+3:=Ua;have hbz2:b<w.heap.size+2:=Ua;have kH:b<w.heap.size+1:=Ua;clear hk hf ih ai aT hx hy;unfold exV at *;generalize K9 ck cs 0 ⟨#[]⟩=bq at *;generalize sq:Jaw l e.name bq=tq at *
 by_cases hz:tq=0
 ·subst hz;have hv:=Jgg (c:=(ck,cs)) ho;rw [bC,bd,bO] at hv;generalize hxq:x.clk l (1,e.name)=xq at *;generalize wB:y.clk l (2,e.name)=yq at *;clear ho bC bd sq bO hxq wB
  by_cases hz:xq=0
  ·subst hz;rw [if_neg Uh] at hv;have HV:=Nf hv;clear hv
   go_enter Tryz.func135,Tryz.ntmps135
   go_wp2_with fail
   go_region
   all_goals
    go_wp2_with fail
    refine Jx Ue Ue (fun bj=>?_)
    repeat (quiet_step ((first|(go_at_call 144;exact Calls.regrown_of (rj _ Jb)))))
    refine wpQuiet_nil ?_;intro wq au;replace au:=qbo au;obtain⟨au,dA,bh⟩:=au;clear bj
    (try simp at bh)
    (try have oO:=lt0 w wq);(try have nw:=ltA w 1 wq);(try have kb:=ltA w 2 wq);(try have vq:=lt0 wr wq)
    (try have ox:0<wq.heap.size:=by omega);(try have lI:=ltA w 3 wq)
    have xE:b<wq.heap.size:=Ua;obtain⟨wp,rfl⟩:∃wp,wp=wq:=⟨wq,rfl⟩;have tF:=au;clear au
    go_wp2_with fail
    refine Jx Ue Ue (fun bj=>?_)
    repeat (quiet_step ((first|(go_at_call 135;exact Calls.regrown_of (ihx _ Jb)))))
    refine wpQuiet_nil ?_;intro wq au;replace au:=qbo au;obtain⟨au,dA,bh⟩:=au;clear bj
    (try simp at bh)
    (try have oO:=lt0 w wq);(try have nw:=ltA w 1 wq);(try have kb:=ltA w 2 wq);(try have vq:=lt0 wr wq)
    (try have ox:0<wq.heap.size:=by omega);(try have lI:=ltA w 3 wq)
    have tG:b<wq.heap.size:=Ua;obtain⟨wo,rfl⟩:∃wo,wo=wq:=⟨wq,rfl⟩;have hwo:=au;clear au
    go_wp2_with fail
    refine Jx Ue Ue (fun bj=>?_)
    repeat (quiet_step ((first|(go_at_call 135;exact Calls.regrown_of (ihy _ Jb)))))
    refine wpQuiet_nil ?_;intro wq au;replace au:=qbo au;obtain⟨au,dA,bh⟩:=au;clear bj
    (try simp at bh)
    (try have oO:=lt0 w wq);(try have nw:=ltA w 1 wq);(try have kb:=ltA w 2 wq);(try have vq:=lt0 wr wq)
    go_wp2_with fail
    go_ret;exact⟨Jm HV.out.symm,Jb⟩
  ·rw [if_pos hz] at hv;have t1:(xq != 0)=true:=Mb;clear hz;have HV:=Nf hv;clear hv
   go_enter Tryz.func135,Tryz.ntmps135
   go_wp2_with fail
   go_region
   all_goals
    go_wp2_with fail
    refine Jx Ue Ue (fun bj=>?_)
    repeat (quiet_step ((first|(go_at_call 144;exact Calls.regrown_of (rj _ Jb)))))
    refine wpQuiet_nil ?_;intro wq au;replace au:=qbo au;obtain⟨au,dA,bh⟩:=au;clear bj
    (try simp at bh)
    (try have oO:=lt0 w wq);(try have nw:=ltA w 1 wq);(try have kb:=ltA w 2 wq);(try have vq:=lt0 wr wq)
    (try have ox:0<wq.heap.size:=by omega);(try have lI:=ltA w 3 wq)
    have xE:b<wq.heap.size:=Ua;obtain⟨wp,rfl⟩:∃wp,wp=wq:=⟨wq,rfl⟩;have tF:=au;clear au
    go_wp2_with fail
    refine Jx Ue Ue (fun bj=>?_)
    repeat (quiet_step ((first|(go_at_call 135;exact Calls.regrown_of (ihx _ Jb)))))
    refine wpQuiet_nil ?_;intro wq au;replace au:=qbo au;obtain⟨au,dA,bh⟩:=au;clear bj
    (try simp at bh)
    (try have oO:=lt0 w wq);(try have nw:=ltA w 1 wq);(try have kb:=ltA w 2 wq);(try have vq:=lt0 wr wq)
    go_wp2_with fail
    go_ret;exact⟨Jm HV.out.symm,Jb⟩
 ·have hv:=Jgh (c:=(ck,cs)) ho hz;have t1:(tq != 0)=true:=Mb;clear ho bC bd sq hz bO;have HV:=Nf hv;clear hv
  go_enter Tryz.func135,Tryz.ntmps135
  go_wp2_with fail
  go_region
  all_goals
   go_wp2_with fail
   refine Jx Ue Ue (fun bj=>?_)
   repeat (quiet_step ((first|(go_at_call 144;exact Calls.regrown_of (rj _ Jb)))))
   refine wpQuiet_nil ?_;intro wq au;replace au:=qbo au;obtain⟨au,dA,bh⟩:=au;clear bj
   (try simp at bh)
   (try have oO:=lt0 w wq);(try have nw:=ltA w 1 wq);(try have kb:=ltA w 2 wq);(try have vq:=lt0 wr wq)
   (try have ox:0<wq.heap.size:=by omega);(try have lI:=ltA w 3 wq)
   go_wp2_with fail
   go_ret;exact⟨Jm HV.out.symm,Jb⟩
theorem Jxc (l:List Va) (A:Option Addr) (cap:Nat) (hn:l.length<=1000000) (e:Ex) (hf:e.formed=true) (ih:∀x∈e.sub,OfP l A cap x) (Ae:Option Addr) (ce:Nat) (ck:Int) (cs:ByteArray) (w:World) (hg:Ql w) (he:Jt w e Ae ce) (hl:Ju w l A cap)
  (hk:e.kind≠3/\e.kind≠8/\e.kind≠9/\e.kind≠10) :
  Calls Tryz.prog 135 #[.slice A l.length cap,exV e Ae ce,.agg #[.int .i64 ck,.string cs]] w fun r w'=>r = .returned (.int .i64 (e.clk l (ck,cs)))/\Below w.heap.size w w':=by
 have eF:=fun c s W h=>Ji6 l A cap e ih Ae ce c s W (hg.later h) (he.later h) (hl.later h);obtain⟨h3,h8,h9,bM⟩:=hk;have ho:Jac l e.kind e.name ck cs=0:=by unfold Jac;rw [if_neg h3,if_neg h8,if_neg h9,if_neg bM]
 have bC:Jb3 e.kind e.name (ck,cs)=(ck,cs):=by unfold Jb3;rw [if_neg Ua,if_neg Ua]
 have bd:Ja0 e.kind e.name (ck,cs)=(ck,cs):=by unfold Ja0;rw [if_neg Ua,if_neg Ua]
 have t3:(e.kind == 3)=false:=S4;have t8:(e.kind == 8)=false:=by simpa using h8
 have t9:(e.kind == 9)=false:=by simpa using h9
 have t10:(e.kind == 10)=false:=F7;have hv:=Jgg (c:=(ck,cs)) ho;rw [bC,bd] at hv;clear ho bC bd hf ih h3 h8 h9 bM;unfold exV;have HV:=Nf hv;clear hv
 go_enter Tryz.func135,Tryz.ntmps135
 go_wp2_with fail
 go_region
 all_goals
  go_wp2_with (first|(go_at_call 145;refine(eF _ _ _ Jb).mono ?_;rintro r w1 ⟨rfl,ac⟩;have ⟨ak,af⟩:=aft ac;(try simp at af);(try have bV:=lt0 w w1);(try have gq:=ltA w 1 w1);(try have ow:=ltA w 2 w1);(try have ns:=lt0 wr w1);(try have nt:=ltA wr 1 w1);(try have lH:=ltA w 3 w1);(try have go:0<w1.heap.size:=by omega)))
  go_ret;exact⟨Jm HV.out.symm,Jb⟩
end Go.Proofs.YtdgjplldlfeolaaGreatDoor
