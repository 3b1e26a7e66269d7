/- Lemmas. -/
import Derived.Test.YtknfcamdfdfoeaaGreatDoorMac
import Derived.RegionTactic
import Derived.BigRegion
import Derived.Test.YtknfcamdfdfoeaaGreatDoorZ14
import Derived.Test.YtknfcamdfdfoeaaGreatDoorZ13
set_option linter.unusedVariables false
set_option linter.unusedSimpArgs false
set_option maxRecDepth 100000
set_option maxHeartbeats 64000000
namespace Go.Proofs.YtknfcamdfdfoeaaGreatDoor
open Go.RowKit Go.Sort
theorem Jy4 (l:List Va) (A:Option Addr) (cap:Nat) (hn:l.length<=1000000) (e:Ex) (hf:e.formed=true) (ih:∀x∈e.sub,OfP l A cap x) (Ae:Option Addr) (ce:Nat) (ck:Int) (cs:ByteArray) (w:World) (hg:Ql w) (he:Jt w e Ae ce) (hl:Ju w l A cap)
  (hk:e.kind=3) :
  Calls Tryz.prog 78 #[.slice A l.length cap,exV e Ae ce,.agg #[.int .i64 ck,.string cs]] w fun r w'=>r = .returned (.int .i64 (e.clk l (ck,cs)))/\Below w.heap.size w w':=by
 have ap:=fun W h=>Jg9 l A cap e.name W (hl.later h) hn;have eF:=fun c s W h=>Ji6 l A cap e ih Ae ce c s W (hg.later h) (he.later h) (hl.later h);have bC:Jb3 e.kind e.name (ck,cs)=(ck,cs):=by unfold Jb3;rw [if_neg Ua,if_neg Ua]
 have bd:Ja0 e.kind e.name (ck,cs)=(ck,cs):=by unfold Ja0;rw [if_neg Ua,if_neg Ua]
 have t3:(e.kind == 3)=true:=Ud;have fM:=Jbt;clear hf ih;unfold exV
 cases jS:Xb l e.name with
 | none=>
  have ho:Jac l e.kind e.name ck cs=19:=by unfold Jac;rw [if_pos hk,jS]
  rw [jS] at ap;have hv:=Jgh (c:=(ck,cs)) ho Ua;clear jS ho bC bd hk;have HV:=Lib.hid hv;clear hv;unfold fcV vaV Jh8 at ap;dsimp only at ap
  go_enter Tryz.func78,Tryz.ntmps78
  go_wp2_with fail
  go_region
  all_goals
   go_wp2_with (first|(go_at_call 77;refine(ap _ Jb).mono ?_;rintro r w1 ⟨rfl,ac⟩;have ⟨ak,af⟩:=aft ac;(try simp at af);(try have bV:=lt0 w w1);(try have gq:=ltA w 1 w1);(try have ow:=ltA w 2 w1);(try have ns:=lt0 wr w1);(try have nt:=ltA wr 1 w1);(try have lH:=ltA w 3 w1);(try have go:0<w1.heap.size:=by omega)))
   go_ret;exact⟨Jm HV.out.symm,Jb⟩
 | some v=>
  rw [jS] at ap;have dp:=fun w=>Zt v.ck v.cn ck cs w;unfold fcV vaV at ap;dsimp only at ap
  cases hq:K9 v.ck v.cn ck cs
  ·rw [hq] at dp;have ho:Jac l e.kind e.name ck cs=21:=by unfold Jac;rw [if_pos hk,jS];simp only [hq];rfl
   have hv:=Jgh (c:=(ck,cs)) ho Ul;clear jS ho bC bd hq hk;have HV:=Lib.hid hv;clear hv
   go_enter Tryz.func78,Tryz.ntmps78
   go_wp2_with fail
   go_region
   all_goals
    go_wp2_with (first|(go_at_call 77;refine(ap _ Jb).mono ?_;rintro r w1 ⟨rfl,ac⟩;have ⟨ak,af⟩:=aft ac;(try simp at af);(try have bV:=lt0 w w1);(try have gq:=ltA w 1 w1);(try have ow:=ltA w 2 w1);(try have ns:=lt0 wr w1);(try have nt:=ltA wr 1 w1);(try have lH:=ltA w 3 w1);(try have go:0<w1.heap.size:=by omega)))
    go_ret;exact⟨Jm HV.out.symm,Jb⟩
  ·rw [hq] at dp;have ho:Jac l e.kind e.name ck cs=0:=by unfold Jac;rw [if_pos hk,jS];simp only [hq];rfl
   have hv:=Jgg (c:=(ck,cs)) ho;rw [bC,bd] at hv;clear jS ho bC bd hq hk;have HV:=Lib.hid hv;clear hv
   go_enter Tryz.func78,Tryz.ntmps78
   go_wp2_with fail
   go_region
   all_goals
    go_wp2_with (first|(go_at_call 77;refine(ap _ Jb).mono ?_;rintro r w1 ⟨rfl,ac⟩;have ⟨ak,af⟩:=aft ac;(try simp at af);(try have bV:=lt0 w w1);(try have gq:=ltA w 1 w1);(try have ow:=ltA w 2 w1);(try have ns:=lt0 wr w1);(try have nt:=ltA wr 1 w1);(try have lH:=ltA w 3 w1);(try have go:0<w1.heap.size:=by omega))|(go_at_call 114;refine(eF _ _ _ Jb).mono ?_;rintro r w1 ⟨rfl,ac⟩;have ⟨ak,af⟩:=aft ac;(try simp at af);(try have bV:=lt0 w w1);(try have gq:=ltA w 1 w1);(try have ow:=ltA w 2 w1);(try have ns:=lt0 wr w1);(try have nt:=ltA wr 1 w1);(try have lH:=ltA w 3 w1);(try have go:0<w1.heap.size:=by omega)))
    go_ret;exact⟨Jm HV.out.symm,Jb⟩
theorem Jyd (l:List Va) (A:Option Addr) (cap:Nat) (hn:l.length<=1000000) (e:Ex) (hf:e.formed=true) (ih:∀x∈e.sub,OfP l A cap x) (Ae:Option Addr) (ce:Nat) (ck:Int) (cs:ByteArray) (w:World) (hg:Ql w) (he:Jt w e Ae ce) (hl:Ju w l A cap)
  (hk:e.kind=8) :
  Calls Tryz.prog 78 #[.slice A l.length cap,exV e Ae ce,.agg #[.int .i64 ck,.string cs]] w fun r w'=>r = .returned (.int .i64 (e.clk l (ck,cs)))/\Below w.heap.size w w':=by
 have rj:=fun W h=>Jhu l A cap e.name (K9 ck cs 1 e.name) W (hg.later h) (hl.later h) hn;have eF:=fun W h=>Ji6 l A cap e ih Ae ce 0 ⟨#[]⟩ W (hg.later h) (he.later h) (hl.later h);have ho:Jac l e.kind e.name ck cs=Jaw l e.name (K9 ck cs 1 e.name):=by unfold Jac;rw [hk];simp
 have bC:Jb3 e.kind e.name (ck,cs)=(0,⟨#[]⟩):=by unfold Jb3;rw [if_pos Ua]
 have bd:Ja0 e.kind e.name (ck,cs)=(0,⟨#[]⟩):=by unfold Ja0;rw [if_pos Ua]
 have t3:(e.kind == 3)=false:=Ud;have t8:(e.kind == 8)=true:=Ud;have t9:(e.kind == 9)=false:=Ud;have fM:=Jbt;have dp:=fun w=>Zt ck cs 1 e.name w;obtain⟨a0,a1⟩:=hg;have eC:0<w.heap.size:=block_lt_of_cell a0;clear hk hf ih;unfold exV;generalize K9 ck cs 1 e.name=bq at *;generalize sq:Jaw l e.name bq=tq at *
 by_cases hz:tq=0
 ·exact Ue5
 ·exact Ue6
theorem Juj (l:List Va) (A:Option Addr) (cap:Nat) (hn:l.length<=1000000) (e:Ex) (hf:e.formed=true) (ih:∀x∈e.sub,OfP l A cap x) (Ae:Option Addr) (ce:Nat) (ck:Int) (cs:ByteArray) (w:World) (hg:Ql w) (he:Jt w e Ae ce) (hl:Ju w l A cap)
  (hk:e.kind=9) :
  Calls Tryz.prog 78 #[.slice A l.length cap,exV e Ae ce,.agg #[.int .i64 ck,.string cs]] w fun r w'=>r = .returned (.int .i64 (e.clk l (ck,cs)))/\Below w.heap.size w w':=by
 have rj:=fun W h=>Jhu l A cap e.name (K9 ck cs 2 e.name) W (hg.later h) (hl.later h) hn;have eF:=fun W h=>Ji6 l A cap e ih Ae ce 0 ⟨#[]⟩ W (hg.later h) (he.later h) (hl.later h);have ho:Jac l e.kind e.name ck cs=Jaw l e.name (K9 ck cs 2 e.name):=by unfold Jac;rw [hk];simp
 have bC:Jb3 e.kind e.name (ck,cs)=(0,⟨#[]⟩):=by unfold Jb3;rw [if_pos Ua]
 have bd:Ja0 e.kind e.name (ck,cs)=(0,⟨#[]⟩):=by unfold Ja0;rw [if_pos Ua]
 have t3:(e.kind == 3)=false:=Ud;have t8:(e.kind == 8)=false:=Ud;have t9:(e.kind == 9)=true:=Ud;have fM:=Jbt;have dp:=fun w=>Zt ck cs 2 e.name w;obtain⟨a0,a1⟩:=hg;have eC:0<w.heap.size:=block_lt_of_cell a0;clear hk hf ih;unfold exV;generalize K9 ck cs 2 e.name=bq at *;generalize sq:Jaw l e.name bq=tq at *
 by_cases hz:tq=0
 ·exact Ue5
 ·exact Ue6
theorem Jwu (l:List Va) (A:Option Addr) (cap:Nat) (hn:l.length<=1000000) (e:Ex) (hf:e.formed=true) (ih:∀x∈e.sub,OfP l A cap x) (Ae:Option Addr) (ce:Nat) (ck:Int) (cs:ByteArray) (w:World) (hg:Ql w) (he:Jt w e Ae ce) (hl:Ju w l A cap)
  (hk:e.kind=10) :
  Calls Tryz.prog 78 #[.slice A l.length cap,exV e Ae ce,.agg #[.int .i64 ck,.string cs]] w fun r w'=>r = .returned (.int .i64 (e.clk l (ck,cs)))/\Below w.heap.size w w':=by
 have ai:=Jfj hf hk;have rj:=fun W h=>Jhu l A cap e.name (K9 ck cs 0 ⟨#[]⟩) W (hg.later h) (hl.later h) hn;have ho:Jac l e.kind e.name ck cs=Jaw l e.name (K9 ck cs 0 ⟨#[]⟩):=by unfold Jac;rw [hk];simp
 have bC:Jb3 e.kind e.name (ck,cs)=(1,e.name):=by unfold Jb3;rw [hk];simp
 have bd:Ja0 e.kind e.name (ck,cs)=(2,e.name):=by unfold Ja0;rw [hk];simp
 obtain⟨x,hx⟩:∃x,e.sub[0]?=some x:=⟨_,List.getElem?_eq_getElem Ua⟩;obtain⟨y,hy⟩:∃y,e.sub[1]?=some y:=⟨_,List.getElem?_eq_getElem Ua⟩
 have aT:e.sub = [x,y]:=by
  match hm:e.sub,ai with
  | [u,v],_=>
   rw [hm] at hx hy;simp at hx hy;rw [hx,hy]
 have bO:Ex.clkL l e.sub (1,e.name) (2,e.name)=if x.clk l (1,e.name)≠0 then x.clk l (1,e.name) else y.clk l (2,e.name):=by
  rw [aT];simp only [Ex.clkL]
  split
  ·exact Gd
  ·split
   ·exact Gd
   ·rename_i h;omega
 obtain⟨b,off,X,cx,rfl,c0,c1,c2,c3,dT⟩:=he.get hx;obtain⟨b',off',Y,cy,gr,d0,d1,d2,d3,oN⟩:=he.get hy;simp only [Option.some.injEq,Addr.mk.injEq,and_true] at gr;obtain⟨rfl,rfl⟩:=gr;simp only [Nat.zero_mul,Nat.one_mul,Nat.add_zero] at c0 c1 c2 c3 d0 d1 d2 d3;have ihx:=fun W h=>ih x (List.mem_of_getElem? hx) X cx 1 e.name W (hg.later h) (dT.later h) (hl.later h);have ihy:=fun W h=>ih y (List.mem_of_getElem? hy) Y cy 2 e.name W (hg.later h) (oN.later h) (hl.later h);have t3:(e.kind == 3)=false:=Ud;have t8:(e.kind == 8)=false:=Ud;have t9:(e.kind == 9)=false:=Ud;have t10:(e.kind == 10)=true:=Ud;have l0:0<e.sub.length:=Ua;have l2:1<e.sub.length:=Ua;have l1:(1:Int)<(e.sub.length:Int):=Ua;have fM:=Jbt;have dp:=fun w=>Zt ck cs 0 ⟨#[]⟩ w;obtain⟨a0,a1⟩:=hg;have eC:0<w.heap.size:=block_lt_of_cell a0;have gt:b<w.heap.size:=block_lt_of_cell c0;have hbz4:b<w.heap.size+4:=Ua;have hbz3:b<w.heap.size+3:=Ua;have hbz2:b<w.heap.size+2:=Ua;have kH:b<w.heap.size+1:=Ua;clear hk hf ih ai aT hx hy;unfold exV at *;generalize K9 ck cs 0 ⟨#[]⟩=bq at *;generalize sq:Jaw l e.name bq=tq at *
 by_cases hz:tq=0
 ·subst hz;have hv:=Jgg (c:=(ck,cs)) ho;rw [bC,bd,bO] at hv;generalize hxq:x.clk l (1,e.name)=xq at *;generalize wB:y.clk l (2,e.name)=yq at *;clear ho bC bd sq bO hxq wB
  by_cases hz:xq=0
  ·subst hz;rw [if_neg Ul] at hv;have HV:=Lib.hid hv;clear hv
   go_enter Tryz.func78,Tryz.ntmps78
   go_wp2_with fail
   go_region
   all_goals
    go_wp2_with fail
    refine Jx Ug Ug (fun bj=>?_)
    repeat (quiet_step ((first|(go_at_call 113;exact Calls.regrown_of (rj _ Jb)))))
    refine wpQuiet_nil ?_;intro wq au;replace au:=qbo au;obtain⟨au,dA,bh⟩:=au;clear bj
    (try simp at bh)
    (try have oO:=lt0 w wq);(try have nw:=ltA w 1 wq);(try have hyq3:=ltA w 2 wq);(try have hyq4:=lt0 wr wq)
    (try have ox:0<wq.heap.size:=by omega);(try have lI:=ltA w 3 wq)
    have xE:b<wq.heap.size:=Ua;obtain⟨wp,rfl⟩:∃wp,wp=wq:=⟨wq,rfl⟩;have tF:=au;clear au
    go_wp2_with fail
    refine Jx Ug Ug (fun bj=>?_)
    repeat (quiet_step ((first|(go_at_call 78;exact Calls.regrown_of (ihx _ Jb)))))
    refine wpQuiet_nil ?_;intro wq au;replace au:=qbo au;obtain⟨au,dA,bh⟩:=au;clear bj
    (try simp at bh)
    (try have oO:=lt0 w wq);(try have nw:=ltA w 1 wq);(try have hyq3:=ltA w 2 wq);(try have hyq4:=lt0 wr wq)
    (try have ox:0<wq.heap.size:=by omega);(try have lI:=ltA w 3 wq)
    have tG:b<wq.heap.size:=Ua;obtain⟨wo,rfl⟩:∃wo,wo=wq:=⟨wq,rfl⟩;have hwo:=au;clear au
    go_wp2_with fail
    refine Jx Ug Ug (fun bj=>?_)
    repeat (quiet_step ((first|(go_at_call 78;exact Calls.regrown_of (ihy _ Jb)))))
    refine wpQuiet_nil ?_;intro wq au;replace au:=qbo au;obtain⟨au,dA,bh⟩:=au;clear bj
    (try simp at bh)
    (try have oO:=lt0 w wq);(try have nw:=ltA w 1 wq);(try have hyq3:=ltA w 2 wq);(try have hyq4:=lt0 wr wq)
    go_wp2_with fail
    go_ret;exact⟨Jm HV.out.symm,Jb⟩
  ·rw [if_pos hz] at hv;have t1:(xq != 0)=true:=Mg;clear hz;have HV:=Lib.hid hv;clear hv
   go_enter Tryz.func78,Tryz.ntmps78
   go_wp2_with fail
   go_region
   all_goals
    go_wp2_with fail
    refine Jx Ug Ug (fun bj=>?_)
    repeat (quiet_step ((first|(go_at_call 113;exact Calls.regrown_of (rj _ Jb)))))
    refine wpQuiet_nil ?_;intro wq au;replace au:=qbo au;obtain⟨au,dA,bh⟩:=au;clear bj
    (try simp at bh)
    (try have oO:=lt0 w wq);(try have nw:=ltA w 1 wq);(try have hyq3:=ltA w 2 wq);(try have hyq4:=lt0 wr wq)
    (try have ox:0<wq.heap.size:=by omega);(try have lI:=ltA w 3 wq)
    have xE:b<wq.heap.size:=Ua;obtain⟨wp,rfl⟩:∃wp,wp=wq:=⟨wq,rfl⟩;have tF:=au;clear au
    go_wp2_with fail
    refine Jx Ug Ug (fun bj=>?_)
    repeat (quiet_step ((first|(go_at_call 78;exact Calls.regrown_of (ihx _ Jb)))))
    refine wpQuiet_nil ?_;intro wq au;replace au:=qbo au;obtain⟨au,dA,bh⟩:=au;clear bj
    (try simp at bh)
    (try have oO:=lt0 w wq);(try have nw:=ltA w 1 wq);(try have hyq3:=ltA w 2 wq);(try have hyq4:=lt0 wr wq)
    go_wp2_with fail
    go_ret;exact⟨Jm HV.out.symm,Jb⟩
 ·have hv:=Jgh (c:=(ck,cs)) ho hz;have t1:(tq != 0)=true:=Mg;clear ho bC bd sq hz bO;have HV:=Lib.hid hv;clear hv
  go_enter Tryz.func78,Tryz.ntmps78
  go_wp2_with fail
  go_region
  all_goals
   go_wp2_with fail
   refine Jx Ug Ug (fun bj=>?_)
   repeat (quiet_step ((first|(go_at_call 113;exact Calls.regrown_of (rj _ Jb)))))
   refine wpQuiet_nil ?_;intro wq au;replace au:=qbo au;obtain⟨au,dA,bh⟩:=au;clear bj
   (try simp at bh)
   (try have oO:=lt0 w wq);(try have nw:=ltA w 1 wq);(try have hyq3:=ltA w 2 wq);(try have hyq4:=lt0 wr wq)
   (try have ox:0<wq.heap.size:=by omega);(try have lI:=ltA w 3 wq)
   go_wp2_with fail
   go_ret;exact⟨Jm HV.out.symm,Jb⟩
theorem Jxc (l:List Va) (A:Option Addr) (cap:Nat) (hn:l.length<=1000000) (e:Ex) (hf:e.formed=true) (ih:∀x∈e.sub,OfP l A cap x) (Ae:Option Addr) (ce:Nat) (ck:Int) (cs:ByteArray) (w:World) (hg:Ql w) (he:Jt w e Ae ce) (hl:Ju w l A cap)
  (hk:e.kind≠3/\e.kind≠8/\e.kind≠9/\e.kind≠10) :
  Calls Tryz.prog 78 #[.slice A l.length cap,exV e Ae ce,.agg #[.int .i64 ck,.string cs]] w fun r w'=>r = .returned (.int .i64 (e.clk l (ck,cs)))/\Below w.heap.size w w':=by
 have eF:=fun c s W h=>Ji6 l A cap e ih Ae ce c s W (hg.later h) (he.later h) (hl.later h);obtain⟨h3,h8,h9,bM⟩:=hk;have ho:Jac l e.kind e.name ck cs=0:=by unfold Jac;rw [if_neg h3,if_neg h8,if_neg h9,if_neg bM]
 have bC:Jb3 e.kind e.name (ck,cs)=(ck,cs):=by unfold Jb3;rw [if_neg Ua,if_neg Ua]
 have bd:Ja0 e.kind e.name (ck,cs)=(ck,cs):=by unfold Ja0;rw [if_neg Ua,if_neg Ua]
 have t3:(e.kind == 3)=false:=Sz;have t8:(e.kind == 8)=false:=Dp;have t9:(e.kind == 9)=false:=by simpa using h9
 have t10:(e.kind == 10)=false:=Fb;have hv:=Jgg (c:=(ck,cs)) ho;rw [bC,bd] at hv;clear ho bC bd hf ih h3 h8 h9 bM;unfold exV;have HV:=Lib.hid hv;clear hv
 go_enter Tryz.func78,Tryz.ntmps78
 go_wp2_with fail
 go_region
 all_goals
  go_wp2_with (first|(go_at_call 114;refine(eF _ _ _ Jb).mono ?_;rintro r w1 ⟨rfl,ac⟩;have ⟨ak,af⟩:=aft ac;(try simp at af);(try have bV:=lt0 w w1);(try have gq:=ltA w 1 w1);(try have ow:=ltA w 2 w1);(try have ns:=lt0 wr w1);(try have nt:=ltA wr 1 w1);(try have lH:=ltA w 3 w1);(try have go:0<w1.heap.size:=by omega)))
  go_ret;exact⟨Jm HV.out.symm,Jb⟩
theorem Juh {d:ByteArray->Option Int} {k:Nat} (HD:Hid (∀s,0<=(d s).getD 0/\(d s).getD 0<=(k:Int))) {n:ByteArray} (h0:0<=(d n).getD 0) (h1:(d n).getD 0<=(k:Int)) :
  Hid (∀s,0<=((upd d n ((d n).getD 0+1)) s).getD 0/\((upd d n ((d n).getD 0+1)) s).getD 0<=((k+1:Nat):Int)):=by
 intro s;have h2:=HD.out s;unfold upd
 by_cases h:s.data=n.data
 ·rw [if_pos h];simp only [Option.getD_some];omega
 ·rw [if_neg h];omega
theorem Jqf (p:Pr) (a:PrA) (w:World) (hp:Kr w p a) (n1:p.ins.length<=1000000) (n2:p.outs.length<=1000000) (n3:p.locals.length<=1000000) (n4:p.eqs.length<=1000000) (he:K5 p=0)
  (g1:p.ins.length<=8) (g2:p.outs.length<=8) (g3:(Je p).length<=24) :
  Calls Tryz.prog 75 #[prV p a] w fun r w'=>r = .returned (fV (J7 p))/\Below w.heap.size w w':=by
 have dD:J7 p=Jhl p (Jah (Je p) 0 (Je p)):=by unfold J7;rw [if_neg Ua,if_neg Ua]
 have jn:=Z5 he;have mn:=Jep jn;have dn:=(X4 jn).2.2.2.2;have bN:=fun W h=>Jh3 p a W (hp.later h) n1 n2 n3 n4;have aJ:=fun W h=>Jcv p a W (hp.later h) n1 n2 n3;rw [he] at bN;clear he jn;have aO:=fun A cap W h=>Jtr (Je p) A cap (fun v hv=>by have:=(mn v hv).1;unfold maxLen;omega) Ua W h;have kC:p.ins.length<=(Je p).length:=by simp [Je]
 have jN:∀v∈Je p,v.name.size<=maxLen:=fun v hv=>by have:=(mn v hv).1;unfold maxLen;omega
 have HSM:=Lib.hid jN;clear jN mn;have jR:=Lib.hid dn;clear dn;have jQ:=Lib.hid dD;clear dD;have oM:=hp.eqs.len;obtain⟨A1,c1,A2,c2,A3,c3,A4,c4⟩:=a;unfold maxLen at oM;unfold prV at *;unfold fV;dsimp only at *;obtain⟨tC,tD⟩:=oM;have HIL:=Lib.hid kC;clear kC;generalize hL:Je p=L at *;have HL:=Lib.hid hL;clear hL
 go_enter Tryz.func75,Tryz.ntmps75
 go_wp2_with (first|(go_at_call 110;refine(bN _ Jb).mono ?_;rintro r wa ⟨rfl,aA⟩;have aW:=Jg aA;have bS:=Jf aA;have cN:w.heap.size+2<=wa.heap.size:=Ut;have dG:w.heap.size<wa.heap.size:=Ua;have mj:w.heap.size+1<wa.heap.size:=Ua)|(go_at_call 42;refine(aJ _ Jb).mono ?_;rintro r wb ⟨⟨A,cap,rfl,ae⟩,aH⟩;have el:=Jg aH;have mJ:=Jf aH;have dH:=aH.size;have cA:w.heap.size<wb.heap.size:=Ua;have mm:w.heap.size+1<wb.heap.size:=Ua;have cR:=Ju.of_own ae)|(go_at_call 111;refine(aO _ _ _ (cR.later Jb)).mono ?_;rintro r wc ⟨⟨B,rfl,hB,kg⟩,bU⟩;have cB:=Jg bU;have eB:=Jf bU;have iG:=bU.size;have kh:w.heap.size<wc.heap.size:=Ua;have uE:w.heap.size+1<wc.heap.size:=Ua))
 refine Jo fun W0 ag=>?_;have ax:Below w.heap.size w W0:=Uo;have zk:Below wc.heap.size wc W0:=Uo;have uF:wc.heap.size<W0.heap.size:=La;have bD:w.heap.size<W0.heap.size:=Ua;have iq:w.heap.size+1<W0.heap.size:=Ua;have p1:W0.cell? ⟨w.heap.size,1,none⟩=some (.slice A1 p.ins.length c1):=Uc;have p4:W0.cell? ⟨w.heap.size,4,none⟩=some (.slice A4 p.eqs.length c4):=Uc;have f0:W0.cell? ⟨w.heap.size+1,0,none⟩=some (.int .i64 0):=Uc;have f1:W0.cell? ⟨w.heap.size+1,1,none⟩=some (.int .i64 0):=Uc;have f2:W0.cell? ⟨w.heap.size+1,2,none⟩=some (.int .i64 0):=Uc;have l0:W0.cell? ⟨wc.heap.size,0,none⟩=some (.slice A L.length cap):=Uc;have l1:W0.cell? ⟨wc.heap.size,1,none⟩=some (.map (some B)):=Uc;have z0:W0.frozen? ⟨w.heap.size+1,0,none⟩=false:=Uc;have z1:W0.frozen? ⟨w.heap.size+1,1,none⟩=false:=Uc;have z2:W0.frozen? ⟨w.heap.size+1,2,none⟩=false:=Uc;clear ag;have bE:Ju W0 L A cap:=cR.later Jb;have eU:=kg.bel zk;have bT:=hp.eqs.later ax;have uG:=eU.lt;dsimp only at bT;clear bN aJ aO ae cR kg aW el cB bS mJ eB hp
 go_loopw [47] (fun i wr=>∃k:Nat,k<=L.length/\i = .int .i64 k/\Jah L k (L.drop k)=Jah L 0 L/\Below W0.heap.size W0 wr) (fun i _=>L.length-(intOf i).toNat)
 case atStart=>exact⟨0,Nat.zero_le _,rfl,rfl,Below.refl _ _⟩
 case round=>
  obtain⟨k,hk,rfl,aa,ab⟩:=hrel;have hc:=Jg ab;have eh:=Jf ab;have bu:=ab.size;have ej:=eU.bel ab;have fF:w.heap.size<wr.heap.size:=Ua;have fa:w.heap.size+1<wr.heap.size:=Ua;have hr3:wc.heap.size<wr.heap.size:=Ua;have sj:B<wr.heap.size:=Ua
  by_cases am:k<L.length
  ·obtain⟨x,hx,-,hd⟩:=Kl am;obtain⟨b,off,rfl,aH,⟨d0,d1,d2,d3⟩⟩:=(bE.later ab).get hx;rw [hd,Jah] at aa;have hs:=HSM.out x (List.mem_of_getElem? hx);clear hd hx
   cases dj:((Qi L x.name).getD 0 != (k:Int))
   case true=>
    rw [if_pos G7] at aa;have hv:J7 p=(2,(k:Int),18):=G0;clear aa;have HV:=Lib.hid hv;clear hv
    go_wp2_with (first|(at_lookup;refine Qb rfl (.tmp 53) (.tmp 55) 115 rfl Tryz.underlying9 Tryz.underlying115 Tryz.underlying3 (Kj _) B L.length (Qi L) x.name rfl Udh rfl hs ?_))
    refine bodyPost_ret (v:= .agg #[.int .i64 (2),.int .i64 ((k:Int)),.int .i64 (18)]) Vy rfl ⟨Vp,?_⟩;exact Km
   rw [if_neg G7] at aa;have HR:=Lib.hid aa;clear aa
   go_wp2_with (first|(at_lookup;refine Qb rfl (.tmp 53) (.tmp 55) 115 rfl Tryz.underlying9 Tryz.underlying115 Tryz.underlying3 (Kj _) B L.length (Qi L) x.name rfl Udh rfl hs ?_))
   exact Uc5
  obtain rfl:k=L.length:=Ua;rw [List.drop_length,Jah] at aa;have fC:J7 p=Jkn L p.ins.length (Zy L p.ins.length 0 (fun _=>none) p.eqs):=by rw [jQ.out,<-aa,Jhl,HL.out]
  have ku:=Lib.hid fC;clear fC aa;clear ej;obtain⟨Wm,rfl⟩:∃Wm,Wm=wr:=⟨wr,rfl⟩;have iQ:Below w.heap.size w Wm:=Jd ax ab;have rE:=bE.later ab;have zl:=eU.bel ab;have zn:=bT.later ab;have hcz:wc.heap.size<Wm.heap.size:=Ua;replace p1:=(hc _ _ bD).trans p1;replace p4:=(hc _ _ bD).trans p4;replace f0:=(hc _ _ iq).trans f0;replace f1:=(hc _ _ iq).trans f1;replace f2:=(hc _ _ iq).trans f2;replace l0:=(hc _ _ uF).trans l0;replace l1:=(hc _ _ uF).trans l1;replace z0:=(eh _ _ iq).trans z0;replace z1:=(eh _ _ iq).trans z1;replace z2:=(eh _ _ iq).trans z2;clear hc eh bu ab bE eU bT ax zk bD iq uF sj uG;have uG:=zl.lt;have gI:=@run_makeMap Tryz.prog
  go_wp2_with fail
  clear gI
  go_loopw [66] (fun i wr=>∃(k:Nat) (d:ByteArray->Option Int),k<=p.eqs.length/\i = .int .i64 k/\Jz Tryz.prog 9 3 wr Wm.heap.size k d/\Hid (∀s,0<=(d s).getD 0/\(d s).getD 0<=(k:Int))/\Zy L p.ins.length k d (p.eqs.drop k)=Zy L p.ins.length 0 (fun _=>none) p.eqs/\Below Wm.heap.size Wm wr) (fun i _=>p.eqs.length-(intOf i).toNat)
  case atStart=>exact⟨0,_,Nat.zero_le _,rfl,Jz.made _,Lib.hid (fun s=>⟨Ul,Ul⟩),rfl,Jb⟩
  case round=>
   obtain⟨k,d,hk,rfl,hmd,HD,aa,ab⟩:=hrel;have hc:=Jg ab;have eh:=Jf ab;have bu:=ab.size;have ek:=hmd.lt;have fF:w.heap.size<wr.heap.size:=Ua;have fa:w.heap.size+1<wr.heap.size:=Ua;have hr3:wc.heap.size<wr.heap.size:=Ua;have sj:B<wr.heap.size:=Ua
   by_cases am:k<p.eqs.length
   ·obtain⟨q,hx,-,hd⟩:=Kl am;obtain⟨b,off,B1,n1,B2,n2,rfl,aH,⟨g0,g1,g2,g3,g4,g5,g6,g7,g8,g9,s1,s2⟩⟩:=(zn.later ab).get hx;rw [hd,Zy] at aa;have hq:=jR.out q (List.mem_of_getElem? hx);have hs:q.name.size<=maxLen:=by have:=(Jaq hq).1;unfold maxLen;omega
    have ou:=fun W h1 h2 hl hd=>Jpd q hq L A cap B L.length B1 n1 B2 n2 p.ins.length Wm.heap.size k d W h1 h2 hl hd;unfold Q6 qeV at ou;obtain⟨hdq0,hdq1⟩:=HD.out q.name;clear hd hx hq
    cases dj:(eqE L p.ins.length d q != 0)
    case true=>
     rw [if_pos G7] at aa;have fC:J7 p=(3,(k:Int),eqE L p.ins.length d q):=Fk;clear aa;have HV:=Lib.hid fC;clear fC
     go_wp2_with (first|(go_at_call 112;refine(ou _ (s1.later Jb) (s2.later Jb) ⟨rE.later Jb,Udh⟩ Udh).mono ?_;rintro r w1 ⟨rfl,ac⟩;have ak:=Jg ac;have db:=Jf ac;have af:=ac.size;(try simp at af);(try have bV:=lt0 w w1);(try have gq:=ltA w 1 w1);(try have ow:=ltA w 2 w1);(try have ns:=lt0 wr w1);(try have nt:=ltA wr 1 w1);have mo:wc.heap.size<w1.heap.size:=Ua)|(at_lookup;refine Qb rfl (.tmp 83) (.tmp 85) 115 rfl Tryz.underlying9 Tryz.underlying115 Tryz.underlying3 (Kj _) Wm.heap.size k d q.name rfl Udh rfl hs ?_)|(at_mapUpdate;refine Jau rfl (.tmp 83) (.tmp 85) (.tmp 87) 115 rfl Tryz.underlying9 Tryz.underlying115 Tryz.underlying3 Wm.heap.size k d q.name ((d q.name).getD 0+1) rfl Udh Ua rfl rfl hs Ua ?_;intro w2 cI aG))
     refine bodyPost_ret (v:= .agg #[.int .i64 (3),.int .i64 ((k:Int)),.int .i64 ((eqE L p.ins.length d q))]) Vy rfl ⟨Vp,?_⟩;exact Km
    rw [if_neg G7] at aa;have HR:=Lib.hid aa;clear aa
    go_wp2_with (first|(go_at_call 112;refine(ou _ (s1.later Jb) (s2.later Jb) ⟨rE.later Jb,Udh⟩ Udh).mono ?_;rintro r w1 ⟨rfl,ac⟩;have ak:=Jg ac;have db:=Jf ac;have af:=ac.size;(try simp at af);(try have bV:=lt0 w w1);(try have gq:=ltA w 1 w1);(try have ow:=ltA w 2 w1);(try have ns:=lt0 wr w1);(try have nt:=ltA wr 1 w1);have mo:wc.heap.size<w1.heap.size:=Ua)|(at_lookup;refine Qb rfl (.tmp 83) (.tmp 85) 115 rfl Tryz.underlying9 Tryz.underlying115 Tryz.underlying3 (Kj _) Wm.heap.size k d q.name rfl Udh rfl hs ?_)|(at_mapUpdate;refine Jau rfl (.tmp 83) (.tmp 85) (.tmp 87) 115 rfl Tryz.underlying9 Tryz.underlying115 Tryz.underlying3 Wm.heap.size k d q.name ((d q.name).getD 0+1) rfl Udh Ua rfl rfl hs Ua ?_;intro w2 cI aG))
    go_roundw
    case rel=>exact⟨k+1,_,Ua,Up,cI,Juh HD hdq0 hdq1,HR.out,Jnu Jb aG (Nat.le_refl _)⟩
    case measure=>simp [intOf];omega
   obtain rfl:k=p.eqs.length:=Ua;rw [List.drop_length,Zy] at aa;have fC:J7 p=Jg3 d L p.ins.length:=Fk;have bL:=Lib.hid fC;clear fC aa ku;obtain⟨We,rfl⟩:∃We,We=wr:=⟨wr,rfl⟩;have ro:Below w.heap.size w We:=Jn iQ ab Ua;have hvae:=rE.later ab;have hr5:Wm.heap.size<We.heap.size:=Ua;have bD:w.heap.size<Wm.heap.size:=Ua;have af:w.heap.size+1<Wm.heap.size:=Ua;replace p1:=(hc _ _ bD).trans p1;replace f0:=(hc _ _ af).trans f0;replace f1:=(hc _ _ af).trans f1;replace f2:=(hc _ _ af).trans f2;replace z0:=(eh _ _ af).trans z0;replace z1:=(eh _ _ af).trans z1;replace z2:=(eh _ _ af).trans z2;clear hc eh iQ ab rE zn zl;have kC:=HIL.out
   go_wp2_with fail
   go_loopw [13] (fun i wr=>∃k:Nat,p.ins.length<=k/\k<=L.length/\i = .int .i64 k/\Jam d k (L.drop k)=Jam d p.ins.length (L.drop p.ins.length)/\Below We.heap.size We wr) (fun i _=>L.length-(intOf i).toNat)
   case atStart=>exact⟨p.ins.length,Nat.le_refl _,kC,rfl,rfl,Jb⟩
   case round=>
    obtain⟨k,fR,hk,rfl,aa,ab⟩:=hrel;have hc:=Jg ab;have eh:=Jf ab;have bu:=ab.size;have ej:=hmd.bel ab;have hr6:w.heap.size<wr.heap.size:=Ua;have hr7:w.heap.size+1<wr.heap.size:=Ua
    by_cases am:k<L.length
    ·obtain⟨x,hx,-,hd⟩:=Kl am;obtain⟨b,off,rfl,aH,⟨d0,d1,d2,d3⟩⟩:=(hvae.later ab).get hx;rw [hd,Jam] at aa;have hs:=HSM.out x (List.mem_of_getElem? hx);clear hd hx
     cases dj:((d x.name).getD 0 == 0)
     case true=>
      rw [if_pos G7] at aa;have hv:J7 p=(2,(k:Int),8):=by rw [bL.out,Jg3,<-aa]
      clear aa;have HV:=Lib.hid hv;clear hv
      go_wp2_with (first|(at_lookup;refine Qb rfl (.tmp 98) (.tmp 103) 115 rfl Tryz.underlying9 Tryz.underlying115 Tryz.underlying3 (Kj _) Wm.heap.size p.eqs.length d x.name rfl Udh rfl hs ?_))
      refine bodyPost_ret (v:= .agg #[.int .i64 (2),.int .i64 ((k:Int)),.int .i64 (8)]) Vy rfl ⟨Vp,?_⟩;exact Km
     rw [if_neg G7] at aa;have HR:=Lib.hid aa;clear aa
     go_wp2_with (first|(at_lookup;refine Qb rfl (.tmp 98) (.tmp 103) 115 rfl Tryz.underlying9 Tryz.underlying115 Tryz.underlying3 (Kj _) Wm.heap.size p.eqs.length d x.name rfl Udh rfl hs ?_))
     go_roundw
     case rel=>exact⟨k+1,Ua,Ua,Up,HR.out,Jb⟩
     case measure=>simp [intOf];omega
    obtain rfl:k=L.length:=Ua;rw [List.drop_length,Jam] at aa;have hv:J7 p=(0,0,0):=by rw [bL.out,Jg3,<-aa]
    clear aa;have HV:=Lib.hid hv;clear hv
    go_wp2_with fail
    refine bodyPost_ret (v:= .agg #[.int .i64 (0),.int .i64 (0),.int .i64 (0)]) Vy rfl ⟨Vp,?_⟩;exact Km
theorem Jnk (p:Pr) (a:PrA) (w:World) (hp:Kr w p a) (n1:p.ins.length<=1000000) (n2:p.outs.length<=1000000) (n3:p.locals.length<=1000000) (n4:p.eqs.length<=1000000) :
  Calls Tryz.prog 75 #[prV p a] w fun r w'=>r = .returned (fV (J7 p))/\Below w.heap.size w w':=by
 by_cases he:K5 p=0
 ·by_cases hb:8<p.ins.length\/8<p.outs.length\/24<(Je p).length
  ·exact Jun p a w hp n1 n2 n3 n4 he hb
  ·exact Jqf p a w hp n1 n2 n3 n4 he Ua Ua Ua
 ·exact Js4 p a w hp n1 n2 n3 n4 he
end Go.Proofs.YtknfcamdfdfoeaaGreatDoor
