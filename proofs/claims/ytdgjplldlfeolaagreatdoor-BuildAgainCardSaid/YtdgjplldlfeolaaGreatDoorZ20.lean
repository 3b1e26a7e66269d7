/- Lemmas. -/
import Derived.Test.YtdgjplldlfeolaaGreatDoorZ17
import Derived.Test.YtdgjplldlfeolaaGreatDoorZ02
import Derived.Test.YtdgjplldlfeolaaGreatDoorZ00
import Derived.Test.YtdgjplldlfeolaaGreatDoorZ01
set_option linter.unusedVariables false
set_option linter.unusedSimpArgs false
set_option maxRecDepth 100000
set_option maxHeartbeats 64000000
namespace Go.Proofs.YtdgjplldlfeolaaGreatDoor
open Go.RowKit Go.Sort
theorem Jul (op:Int):((op == 1)=false/\(op == 2)=false/\(op == 3)=false/\(op == 4)=false/\(op == 5)=false/\(op == 6)=false/\(op == 7)=false/\(op == 8)=false/\(op == 9)=false/\(op == 10)=false/\(op == 11)=false)\/
  op=1\/op=2\/op=3\/op=4\/op=5\/op=6\/op=7\/op=8\/op=9\/op=10\/op=11:=by
 simp only [beq_eq_false_iff_ne,ne_eq];omega
theorem Jdz (op:Int) (w:World):Calls Tryz.prog 115 #[.int .i64 op] w fun r w'=>r = .returned (.int .i64 (Qp op))/\Below w.heap.size w w':=by
 by_cases h1:op=1
 ·subst h1
  go_enter Tryz.func115,Tryz.ntmps115
  go_wp2_with fail
  go_ret;exact⟨Jm (by decide),Jb⟩
 by_cases bM:op=10
 ·subst bM
  go_enter Tryz.func115,Tryz.ntmps115
  go_wp2_with fail
  go_ret;exact⟨Jm (by decide),Jb⟩
 by_cases gh:op=11
 ·subst gh
  go_enter Tryz.func115,Tryz.ntmps115
  go_wp2_with fail
  go_ret;exact⟨Jm (by decide),Jb⟩
 have t1:(op == 1)=false:=by simpa using h1
 have t10:(op == 10)=false:=by simpa using bM
 have t11:(op == 11)=false:=by simpa using gh
 by_cases hg:1<op
 ·by_cases hl:op<10
  ·have hv:Qp op=1:=by unfold Qp;rw [if_neg h1,if_neg (by omega),if_pos ⟨hg,hl⟩]
   clear h1 bM gh;have HV:=Lib.hid hv;clear hv
   go_enter Tryz.func115,Tryz.ntmps115
   go_wp2_with fail
   go_ret;exact⟨Jm HV.out.symm,Jb⟩
  ·have hv:Qp op=0:=by unfold Qp;rw [if_neg h1,if_neg (by omega),if_neg (fun h=>hl h.2)]
   clear h1 bM gh;have HV:=Lib.hid hv;clear hv
   go_enter Tryz.func115,Tryz.ntmps115
   go_wp2_with fail
   go_ret;exact⟨Jm HV.out.symm,Jb⟩
 ·have hv:Qp op=0:=by unfold Qp;rw [if_neg h1,if_neg (by omega),if_neg (fun h=>hg h.1)]
  clear h1 bM gh;have HV:=Lib.hid hv;clear hv
  go_enter Tryz.func115,Tryz.ntmps115
  go_wp2_with fail
  go_ret;exact⟨Jm HV.out.symm,Jb⟩
def Jbu (op:Int):Int:=if op=8 then 2 else if op=9 then 16 else if op=10\/op=11 then 65535 else 255
theorem Jm1 (op:Int) (w:World):Calls Tryz.prog 116 #[.int .i64 op] w fun r w'=>r = .returned (.int .i32 (Jbu op))/\w'=w:=by
 by_cases h:op=8\/op=9\/op=10\/op=11
 ·rcases h with rfl|rfl|rfl|rfl
  all_goals
   go_enter Tryz.func116,Tryz.ntmps116
   go_wp2_with fail
   go_ret;exact⟨Jm (by decide),rfl⟩
 ·have t8:(op == 8)=false:=by simp;omega
  have t9:(op == 9)=false:=by simp;omega
  have t10:(op == 10)=false:=by simp;omega
  have t11:(op == 11)=false:=by simp;omega
  have hv:Jbu op=255:=by unfold Jbu;rw [if_neg (by omega),if_neg (by omega),if_neg (by omega)]
  clear h;have HV:=Lib.hid hv;clear hv
  go_enter Tryz.func116,Tryz.ntmps116
  go_wp2_with fail
  go_ret;exact⟨Jm HV.out.symm,rfl⟩
theorem Jrp (op:Int):(Qp op=0)\/(op=1/\Qp op=4)\/((op=8\/op=9)/\Qp op=1)\/((op=10\/op=11)/\Qp op=2)\/((2<=op/\op<=7)/\Qp op=1):=by
 unfold Qp
 repeat' split
 all_goals omega
theorem Joo {op n:Int} (h1:op=8\/op=9):Qj (op,n)=if n<1\/Jbu op<n then 9 else 0:=by
 rcases h1 with rfl|rfl
 ·simp only [Qj,Qp,Jbu]
  by_cases h:n<1\/2<n
  ·simp [h]
  ·simp [h];omega
 ·simp only [Qj,Qp,Jbu]
  by_cases h:n<1\/16<n
  ·simp [h]
  ·simp [h];omega
theorem Job {op n:Int} (h1:op=10\/op=11\/(2<=op/\op<=7)):Qj (op,n)=if n<0\/Jbu op<n then 10 else 0:=by
 rcases h1 with rfl|rfl|h1
 ·simp [Qj,Qp,Jbu]
 ·simp [Qj,Qp,Jbu]
 ·have hw:Qp op=1:=by unfold Qp;rw [if_neg (by omega),if_neg (by omega),if_pos (by omega)]
  have hm:Jbu op=255:=by unfold Jbu;rw [if_neg (by omega),if_neg (by omega),if_neg (by omega)]
  unfold Qj;rw [hw,hm];dsimp only;rw [if_neg (by decide),if_neg (by decide),if_neg (fun h=>by omega),if_neg (fun h=>by omega),if_neg (fun h=>absurd h.1 (by decide))];simp
def Jby (op n:Int) (w:World):Prop:=Calls Tryz.prog 95 #[.agg #[.int .i64 op,.int .i32 n]] w fun r w'=>r = .returned (.int .i64 (Qj (op,n)))/\Below w.heap.size w w'
theorem Jqz (op n:Int) (w:World) (h:Qp op=0):Jby op n w:=by
 unfold Jby
 have cO:=fun W=>Jdz op W;have hv:Qj (op,n)=9:=by unfold Qj;rw [if_pos h]
 rw [h] at cO;clear h;have HV:=Lib.hid hv;clear hv
 go_enter Tryz.func95,Tryz.ntmps95
 go_wp2_with (first|(go_at_call 115;refine mo (cO _) fun w1 ac ak af bV=>?_;(try simp at af)))
 go_ret;exact⟨Jm HV.out.symm,Jb⟩
theorem Jqo (op n:Int) (w:World) (h:Qp op=4):Jby op n w:=by
 unfold Jby
 have cO:=fun W=>Jdz op W;have hv:Qj (op,n)=0:=by unfold Qj;rw [if_neg (by rw [h];decide),if_pos h]
 rw [h] at cO;clear h;have HV:=Lib.hid hv;clear hv
 go_enter Tryz.func95,Tryz.ntmps95
 go_wp2_with (first|(go_at_call 115;refine mo (cO _) fun w1 ac ak af bV=>?_;(try simp at af)))
 go_ret;exact⟨Jm HV.out.symm,Jb⟩
theorem Jpc (op n:Int) (w:World) (h1:op=8\/op=9):Jby op n w:=by
 unfold Jby
 have cO:=fun W=>Jdz op W;have fp:=fun W=>Jm1 op W;have h:Qp op=1:=by rcases h1 with rfl|rfl <;> rfl
 have hr:=Joo (n:=n) h1;rw [h] at cO
 have tn:((op == 8)=true/\(op == 9)=false)\/((op == 8)=false/\(op == 9)=true):=by
  rcases h1 with rfl|rfl
  ·exact .inl ⟨rfl,rfl⟩
  ·exact .inr ⟨rfl,rfl⟩
 have eU:1<=Jbu op:=by rcases h1 with rfl|rfl <;> decide
 clear h h1;generalize Jbu op=m at *
 by_cases c1:n<1
 ·have hv:Qj (op,n)=9:=by rw [hr,if_pos (.inl c1)]
  have d1:decide (n<1)=true:=by simpa using c1
  clear hr c1 eU;have HV:=Lib.hid hv;clear hv
  rcases tn with ⟨t8,t9⟩|⟨t8,t9⟩
  all_goals
   go_enter Tryz.func95,Tryz.ntmps95
   go_wp2_with (first|(go_at_call 115;refine mo (cO _) fun w1 ac ak af bV=>?_;(try simp at af)))
   go_quiet ((go_at_call 116;exact Calls.quiet_of_same (fp _)))
   go_wp2_with fail
   go_ret;exact⟨Jm HV.out.symm,Jb⟩
 have d1:decide (n<1)=false:=by simpa using c1
 by_cases c2:m<n
 ·have hv:Qj (op,n)=9:=by rw [hr,if_pos (.inr c2)]
  have d2:decide (m<n)=true:=by simpa using c2
  clear hr c1 c2 eU;have HV:=Lib.hid hv;clear hv
  rcases tn with ⟨t8,t9⟩|⟨t8,t9⟩
  all_goals
   go_enter Tryz.func95,Tryz.ntmps95
   go_wp2_with (first|(go_at_call 115;refine mo (cO _) fun w1 ac ak af bV=>?_;(try simp at af)))
   go_quiet ((go_at_call 116;exact Calls.quiet_of_same (fp _)))
   go_wp2_with fail
   go_ret;exact⟨Jm HV.out.symm,Jb⟩
 ·have hv:Qj (op,n)=0:=by rw [hr,if_neg (by omega)]
  have d2:decide (m<n)=false:=by simpa using c2
  have d0:decide (n<0)=false:=by simp;omega
  clear hr c1 c2 eU;have HV:=Lib.hid hv;clear hv
  rcases tn with ⟨t8,t9⟩|⟨t8,t9⟩
  all_goals
   go_enter Tryz.func95,Tryz.ntmps95
   go_wp2_with (first|(go_at_call 115;refine mo (cO _) fun w1 ac ak af bV=>?_;(try simp at af)))
   go_quiet ((go_at_call 116;exact Calls.quiet_of_same (fp _)))
   go_wp2_with fail
   refine Jo fun W1 bt=>?_;have q0:W1.cell? ⟨w.heap.size,0,none⟩=some (.int .i64 op):=by rw [bt];go_simp
   have q1:W1.cell? ⟨w.heap.size,1,none⟩=some (.int .i32 n):=by rw [bt];go_simp
   have aC:Below w.heap.size w W1:=by rw [bt];exact Jb
   clear bt
   go_quiet ((go_at_call 116;exact Calls.quiet_of_same (fp _)))
   go_wp2_with fail
   go_ret;exact⟨Jm HV.out.symm,Jb⟩
theorem Jhs (op n:Int) (w:World) (h1:op=10\/op=11\/(2<=op/\op<=7)):Jby op n w:=by
 unfold Jby
 have cO:=fun W=>Jdz op W;have fp:=fun W=>Jm1 op W;have t8:(op == 8)=false:=by simp;omega
 have t9:(op == 9)=false:=by simp;omega
 have dz:(Qp op == 0)=false/\(Qp op == 4)=false:=by
  have:Qp op=2\/Qp op=1:=by
   unfold Qp
   repeat' split
   all_goals omega
  rcases this with h|h <;> rw [h] <;> decide
 obtain⟨k0,k4⟩:=dz;have hr:=Job (n:=n) h1;clear h1;generalize Qp op=k at *;generalize Jbu op=m at *
 by_cases c1:n<0
 ·have hv:Qj (op,n)=10:=by rw [hr,if_pos (.inl c1)]
  have d1:decide (n<0)=true:=by simpa using c1
  clear hr c1;have HV:=Lib.hid hv;clear hv
  go_enter Tryz.func95,Tryz.ntmps95
  go_wp2_with (first|(go_at_call 115;refine mo (cO _) fun w1 ac ak af bV=>?_;(try simp at af)))
  go_quiet ((go_at_call 116;exact Calls.quiet_of_same (fp _)))
  go_wp2_with fail
  refine Jo fun W1 bt=>?_;have q0:W1.cell? ⟨w.heap.size,0,none⟩=some (.int .i64 op):=by rw [bt];go_simp
  have q1:W1.cell? ⟨w.heap.size,1,none⟩=some (.int .i32 n):=by rw [bt];go_simp
  have aC:Below w.heap.size w W1:=by rw [bt];exact Jb
  clear bt
  go_quiet ((go_at_call 116;exact Calls.quiet_of_same (fp _)))
  go_wp2_with fail
  go_ret;exact⟨Jm HV.out.symm,Jb⟩
 have d1:decide (n<0)=false:=by simpa using c1
 by_cases c2:m<n
 ·have hv:Qj (op,n)=10:=by rw [hr,if_pos (.inr c2)]
  have d2:decide (m<n)=true:=by simpa using c2
  clear hr c1 c2;have HV:=Lib.hid hv;clear hv
  go_enter Tryz.func95,Tryz.ntmps95
  go_wp2_with (first|(go_at_call 115;refine mo (cO _) fun w1 ac ak af bV=>?_;(try simp at af)))
  go_quiet ((go_at_call 116;exact Calls.quiet_of_same (fp _)))
  go_wp2_with fail
  refine Jo fun W1 bt=>?_;have q0:W1.cell? ⟨w.heap.size,0,none⟩=some (.int .i64 op):=by rw [bt];go_simp
  have q1:W1.cell? ⟨w.heap.size,1,none⟩=some (.int .i32 n):=by rw [bt];go_simp
  have aC:Below w.heap.size w W1:=by rw [bt];exact Jb
  clear bt
  go_quiet ((go_at_call 116;exact Calls.quiet_of_same (fp _)))
  go_wp2_with fail
  go_ret;exact⟨Jm HV.out.symm,Jb⟩
 ·have hv:Qj (op,n)=0:=by rw [hr,if_neg (by omega)]
  have d2:decide (m<n)=false:=by simpa using c2
  clear hr c1 c2;have HV:=Lib.hid hv;clear hv
  go_enter Tryz.func95,Tryz.ntmps95
  go_wp2_with (first|(go_at_call 115;refine mo (cO _) fun w1 ac ak af bV=>?_;(try simp at af)))
  go_quiet ((go_at_call 116;exact Calls.quiet_of_same (fp _)))
  go_wp2_with fail
  refine Jo fun W1 bt=>?_;have q0:W1.cell? ⟨w.heap.size,0,none⟩=some (.int .i64 op):=by rw [bt];go_simp
  have q1:W1.cell? ⟨w.heap.size,1,none⟩=some (.int .i32 n):=by rw [bt];go_simp
  have aC:Below w.heap.size w W1:=by rw [bt];exact Jb
  clear bt
  go_quiet ((go_at_call 116;exact Calls.quiet_of_same (fp _)))
  go_wp2_with fail
  go_ret;exact⟨Jm HV.out.symm,Jb⟩
theorem Jlr (op n:Int) (w:World):Jby op n w:=by
 rcases Jrp op with h|⟨h1,h⟩|⟨h1,h⟩|⟨h1,h⟩|⟨h1,h⟩
 ·exact Jqz op n w h
 ·exact Jqo op n w h
 ·exact Jpc op n w h1
 ·exact Jhs op n w (by omega)
 ·exact Jhs op n w (by omega)
theorem K1 {B:Nat} {W W':World} (h:J6 (fun b=>b=B) W W'):∀b o,b≠B->b<W.heap.size->W'.cell? ⟨b,o,none⟩=W.cell? ⟨b,o,none⟩:=fun b o hb am=>World.cell?_of_block (h.block b am hb)
theorem kfz {B:Nat} {W W':World} (h:J6 (fun b=>b=B) W W'):∀b o,b≠B->b<W.heap.size->W'.frozen? ⟨b,o,none⟩=W.frozen? ⟨b,o,none⟩:=fun b o hb am=>World.frozen?_of_block (h.block b am hb)
abbrev Kel (W:World) (c:Nat) (v0 v1 v2 v3:Value):World:=(((W.setCell ⟨c,0,none⟩ v0).setCell ⟨c,1,none⟩ v1).setCell ⟨c,2,none⟩ v2).setCell ⟨c,3,none⟩ v3
theorem Keq (W:World) (c:Nat) (v0 v1 v2 v3:Value):(Kel W c v0 v1 v2 v3).heap.size=W.heap.size:=by simp
theorem Kfr (W:World) (c:Nat) (v0 v1 v2 v3:Value) {k:Nat} (h:k≠c):(Kel W c v0 v1 v2 v3).heap[k]?=W.heap[k]?:=by
 unfold Kel;rw [heap_setCell_other _ _ _ _ h,heap_setCell_other _ _ _ _ h,heap_setCell_other _ _ _ _ h,heap_setCell_other _ _ _ _ h]
theorem Kgf {base b2 c:Nat} {w:World} {P:World->Prop} (h:Off b2 none w P) (hb:base<=b2) (hc:c<b2) (v0 v1 v2 v3:Value):Off base none (Kel w c v0 v1 v2 v3) P:=
 h.fresh hb (fun k h1 _=>Kfr _ _ _ _ _ _ (by omega)) (by rw [Keq];exact Nat.le_refl _) (by simp)
theorem Kfo {base:Nat} {w:World} {P:World->Prop} (h:Off base none w P) (o:Obj):Off base none (w.alloc o) P:=h.later (Jc (Below.refl _ _) o)
theorem Kgr {base b2 c:Nat} {w:World} {P:World->Prop} (h:Off b2 none w P) (hb:base<=b2) (hc:c<b2) (v0 v1 v2 v3:Value) (o:Obj):Off base none ((Kel w c v0 v1 v2 v3).alloc o) P:=Kfo (Kgf h hb hc _ _ _ _) o
theorem Kgv (w:World) (c:Nat) (v0 v1 v2 v3:Value) (l:Array Value) (t:TypeId) (j:Nat):((Kel w c v0 v1 v2 v3).alloc (.cells l t)).cell? ⟨w.heap.size,j,none⟩=l[j]?:=by
 have:=Kw (Kel w c v0 v1 v2 v3) l t j
 rwa [Keq] at this
theorem Kfq (w:World) (c:Nat) (v0 v1 v2 v3:Value) (o:Obj):((Kel w c v0 v1 v2 v3).alloc o).heap.size=w.heap.size+1:=by simp
theorem Kk1 {base b1 c:Nat} {w:World} {k n:Int} {nm:ByteArray} {x:Ex} {a:Option Addr} {ca:Nat} {t:TypeId} {v0 v1 v2 v3:Value} (h:Off b1 none w (fun V=>Jt V x a ca)) (hb:base<=b1) (hc:c<b1) (hw:base<=w.heap.size) :
  Off base none ((Kel w c v0 v1 v2 v3).alloc (.cells #[.int .i64 x.kind,.int .i32 x.n,.string x.name,.slice a x.sub.length ca] t)) (fun V=>Jt V (.mk k n nm [x]) (some ⟨w.heap.size,0,none⟩) 1):=
 Klc hw (by rw [Kfq];omega) (fun j u hj=>by rw [Kgv];simpa [exC] using hj) (Kgr h hb hc _ _ _ _ _)
theorem Knp {base b1 b2 c:Nat} {w:World} {k n:Int} {nm:ByteArray} {x y:Ex} {a b:Option Addr} {ca cb:Nat} {t:TypeId} {v0 v1 v2 v3:Value} (h:Off b1 none w (fun V=>Jt V x a ca)) (h':Off b2 none w (fun V=>Jt V y b cb)) (hb:base<=b1) (hc:c<b1) (aq:base<=b2) (dm:c<b2) (hw:base<=w.heap.size) :
  Off base none ((Kel w c v0 v1 v2 v3).alloc (.cells #[.int .i64 x.kind,.int .i32 x.n,.string x.name,.slice a x.sub.length ca,.int .i64 y.kind,.int .i32 y.n,.string y.name,.slice b y.sub.length cb] t)) (fun V=>Jt V (.mk k n nm [x,y]) (some ⟨w.heap.size,0,none⟩) 2):=
 Kk6 hw (by rw [Kfq];omega) (fun j u hj=>by rw [Kgv];simpa [exC] using hj) (Kgr h hb hc _ _ _ _ _) (Kgr h' aq dm _ _ _ _ _)
theorem Kn9 {base b1 b2 b3 c:Nat} {w:World} {k n:Int} {nm:ByteArray} {x y z:Ex} {a b d:Option Addr} {ca cb cd:Nat} {t:TypeId} {v0 v1 v2 v3:Value} (h:Off b1 none w (fun V=>Jt V x a ca)) (h':Off b2 none w (fun V=>Jt V y b cb)) (h3:Off b3 none w (fun V=>Jt V z d cd)) (hb:base<=b1) (hc:c<b1) (aq:base<=b2) (dm:c<b2) (aM:base<=b3) (kE:c<b3) (hw:base<=w.heap.size) :
  Off base none ((Kel w c v0 v1 v2 v3).alloc (.cells #[.int .i64 x.kind,.int .i32 x.n,.string x.name,.slice a x.sub.length ca,.int .i64 y.kind,.int .i32 y.n,.string y.name,.slice b y.sub.length cb,.int .i64 z.kind,.int .i32 z.n,.string z.name,.slice d z.sub.length cd] t)) (fun V=>Jt V (.mk k n nm [x,y,z]) (some ⟨w.heap.size,0,none⟩) 3):=
 Klv hw (by rw [Kfq];omega) (fun j u hj=>by rw [Kgv];simpa [exC] using hj) (Kgr h hb hc _ _ _ _ _) (Kgr h' aq dm _ _ _ _ _) (Kgr h3 aM kE _ _ _ _ _)
theorem Kd0 {B:Nat} {ts:List Tk} {A:Option Addr} {cap:Nat} {W:World} {st:St} (h:X2 B ts A cap W st) {c:Nat} (hc:B<c) (v0 v1 v2 v3:Value):X2 B ts A cap (Kel W c v0 v1 v2 v3) st:=h.beyond4 hc _ _ _ _
theorem Kga {B:Nat} {ts:List Tk} {A:Option Addr} {cap:Nat} {W:World} {st:St} (h:X2 B ts A cap W st) {c:Nat} (hc:B<c) (v0 v1 v2 v3:Value) (o:Obj):X2 B ts A cap ((Kel W c v0 v1 v2 v3).alloc o) st:=(h.beyond4 hc _ _ _ _).alloc _
theorem Kdp {S:Nat->Prop} {W W':World} (h:J6 S W W') {c:Nat} (hc:W.heap.size<=c) (v0 v1 v2 v3:Value):J6 S W (Kel W' c v0 v1 v2 v3):=h.fresh4 hc _ _ _ _
theorem Kfp {S:Nat->Prop} {W W':World} (h:J6 S W W') {c:Nat} (hc:W.heap.size<=c) (v0 v1 v2 v3:Value) (o:Obj):J6 S W ((Kel W' c v0 v1 v2 v3).alloc o):=(h.fresh4 hc _ _ _ _).alloc o
theorem K2 {S:Nat->Prop} {W W':World} {o:Obj} (h:J6 S (W.alloc o) W'):J6 S W W':=(J6.bel (Jc (Below.refl _ _) o)).trans' h
theorem Kj3 {B base:Nat} {W:World} {P:World->Prop} (h:Off base none W P) (hB:B<base):Kfu B W P:=fun W' hk=>Jp6 h hk fun k h1 _=>by show ¬k=B;omega
def Kgx (B:Nat) (ts:List Tk) (A:Option Addr) (cap:Nat) (f:Nat):Prop:=∀(st:St) (W:World),X2 B ts A cap W st->
 (12 * (ts.length-st.pos)+10<f->Calls Tryz.prog 43 #[.pointer (some ⟨B,0,none⟩)] W (Kdq B ts A cap W (K3 ts f .expr st)))/\
 (∀k:Nat,k<=6->12 * (ts.length-st.pos)+(9-k)<f->Calls Tryz.prog 86 #[.pointer (some ⟨B,0,none⟩),.int .i64 k] W (Kdq B ts A cap W (K3 ts f (.level k) st)))/\
 (12 * (ts.length-st.pos)+2<f->Calls Tryz.prog 107 #[.pointer (some ⟨B,0,none⟩)] W (Kdq B ts A cap W (K3 ts f .unary st)))/\
 (12 * (ts.length-st.pos)+1<f->Calls Tryz.prog 124 #[.pointer (some ⟨B,0,none⟩)] W (Kdq B ts A cap W (K3 ts f .factor st)))/\
 (12 * (ts.length-st.pos)<f->Calls Tryz.prog 137 #[.pointer (some ⟨B,0,none⟩)] W (Kdq B ts A cap W (K3 ts f .atom st)))
theorem Kno (w:World) (l:List ByteArray) (t:TypeId) (c:Array Value) (hc:c=(l.map Value.string).toArray) (hl:l.length<=maxLen):Off w.heap.size none (w.alloc (.cells c t)) (fun V=>Qf V l (some ⟨w.heap.size,0,none⟩) l.length):=fun w' jC=>
 ⟨Nat.le_refl _,hl,fun _=>⟨_,_,rfl,fun k s hk=>by
  refine Jr (jC w.heap.size (Nat.le_refl _) (by simp) (by simp)) ?_;rw [Nat.zero_add,Kw,hc];simp [hk]⟩⟩
theorem Ki9 (k:Nat) (hk:k<6) (W:World):Calls Tryz.prog 109 #[.int .i64 k] W fun r w'=>(∃Al,r = .returned (.slice Al (Kdx k).length (Kdx k).length)/\Off W.heap.size none w' (fun V=>Qf V (Kdx k) Al (Kdx k).length))/\Below W.heap.size W w':=by
 obtain rfl|rfl|rfl|rfl|rfl|rfl:k=0\/k=1\/k=2\/k=3\/k=4\/k=5:=by omega
 all_goals
  go_enter Tryz.func109,Tryz.ntmps109
  go_wp2_with fail
  go_ret;refine⟨⟨_,rfl,Kno W _ _ _ rfl (by unfold maxLen;simp [Kdx])⟩,Jc (Below.refl _ _) _⟩
theorem Kmv (s:ByteArray) (W:World):Calls Tryz.prog 110 #[.string s] W fun r w'=>r = .returned (.int .i32 (opF s))/\W=w':=by
 go_enter Tryz.func110,Tryz.ntmps110
 go_wp2_with fail
 go_loopw [3] (fun i wr=>∃(k:Nat) (f:Nat),k+f=17/\1<=k/\i = .int .i32 k/\Kei s f k=opF s/\wr=W) (fun i _=>17-(intOf i).toNat)
 case atStart=>exact⟨1,16,rfl,by omega,rfl,rfl,rfl⟩
 case round=>
  obtain⟨k,f,hkf,cD,rfl,aa,rfl⟩:=hrel
  by_cases am:k<17
  ·obtain⟨f,rfl⟩:∃g,f=g+1:=⟨f-1,by omega⟩;rw [Kei] at aa;have hki:(k:Int)<17:=by omega
   cases hs:(Ja6 (k:Int)).toList == s.toList
   ·rw [hs,if_neg (by simp)] at aa;have HR:=Lib.hid aa;clear aa
    go_wp2_with (go_at_call 53;refine(Jv4 _ _).mono ?_;rintro r w1 ⟨rfl,rfl⟩)
    go_roundw
    case rel=>exact⟨k+1,f,by omega,by omega,by go_num,by have:=HR.out;simpa using this,by first|trivial|rfl⟩
    case measure=>simp [intOf];omega
   ·rw [hs,if_pos rfl] at aa;have HR:=Lib.hid aa;clear aa
    go_wp2_with (go_at_call 53;refine(Jv4 _ _).mono ?_;rintro r w1 ⟨rfl,rfl⟩)
    go_ret;exact⟨by rw [<-HR.out];rfl,rfl⟩
  ·obtain rfl:k=17:=by omega
   obtain rfl:f=0:=by omega
   rw [Kei] at aa;have HR:=Lib.hid aa;clear aa
   go_wp2_with fail
   go_ret;exact⟨by rw [<-HR.out];rfl,rfl⟩
theorem Klo {B:Nat} {ts:List Tk} {A:Option Addr} {cap f:Nat} {st:St} {W:World} (ih:Kgx B ts A cap f) (h:X2 B ts A cap W st) (ai:ts.length<=100000) (hf:12 * (ts.length-st.pos)+2<f+1) :
  Calls Tryz.prog 107 #[.pointer (some ⟨B,0,none⟩)] W (Kdq B ts A cap W (K3 ts (f+1) .unary st)):=by
 have cm:=h.lt;have nn:=h.le;have aS:W.heap.size≠B:=by omega
 have vh:=fun o s=>Kfh (h.alloc o) s ai;rw [K3];have hu:∀st',st.pos<st'.pos->st'.pos<=ts.length->∀W',X2 B ts A cap W' st'->Calls Tryz.prog 107 #[.pointer (some ⟨B,0,none⟩)] W' (Kdq B ts A cap W' (K3 ts f .unary st')):=fun st' h1 h2 W' hp=>(ih st' W' hp).2.2.1 (by omega);have eB:∀W',X2 B ts A cap W' st->Calls Tryz.prog 124 #[.pointer (some ⟨B,0,none⟩)] W' (Kdq B ts A cap W' (K3 ts f .factor st)):=fun W' hp=>(ih st W' hp).2.2.2.1 (by omega);clear ih
 cases h1:Kc5 ts st ⟨#[45]⟩
 ·rw [if_neg (by simp)]
  cases h2:Kc5 ts st ⟨#[110,111,116]⟩
  ·rw [if_neg (by simp)];have gJ:=vh (.cells #[.int .i64 0,.int .i32 0,.string ⟨#[]⟩,.slice none 0 0] 73) ⟨#[45]⟩;have nQ:=fun W' (h':X2 B ts A cap W' st)=>Kfh h' ⟨#[110,111,116]⟩ ai;have e1:Kc6 ts st ⟨#[45]⟩=st:=by unfold Kc6;rw [h1,if_neg (by simp)]
   have e2:Kc6 ts st ⟨#[110,111,116]⟩=st:=by unfold Kc6;rw [h2,if_neg (by simp)]
   rw [h1,e1] at gJ;rw [h2,e2] at nQ;generalize K3 ts f .factor st=R at eB ⊢;unfold Kdq Ke9 exV at eB;clear vh hu h1 h2 e1 e2
   go_enter Tryz.func107,Tryz.ntmps107
   go_wp2_with (first
    | (go_at_call_of 18 (Value.string ⟨#[45]⟩);go_loud (refine gJ.mono ?_;rintro r w1 ⟨rfl,ii,cD⟩))
    | (go_at_call_of 18 (Value.string ⟨#[110,111,116]⟩);go_loud (refine(nQ _ ii).mono ?_;rintro r w2 ⟨rfl,gL,dz⟩))
    | (go_at_call 124;go_loud (refine(eB _ gL).mono ?_;rintro r w3 ⟨⟨_,rfl,A3,c3,rfl,ho3⟩,ip,dU⟩;have hk:=cD.trans' (dz.trans' dU);have aW:=K1 hk;have bS:=kfz hk;have hz:=hk.size;have hz12:=(cD.trans' dz).size;(try simp at hz hz12);have dG:W.heap.size<w3.heap.size:=(by omega))))
   refine bodyPost_ret (v:=exV R.1 A3 c3) (by simp [results,Tryz.results107,go_sem,exV, *]) rfl ?_;exact⟨⟨_,rfl,A3,c3,rfl,Kgf ho3 (by omega) (by omega) _ _ _ _⟩,Kd0 ip cm _ _ _ _,Kdp (K2 hk) (Nat.le_refl _) _ _ _ _⟩
  ·rw [if_pos rfl];have am:=Ket h2;have gJ:=vh (.cells #[.int .i64 0,.int .i32 0,.string ⟨#[]⟩,.slice none 0 0] 73) ⟨#[45]⟩;have nQ:=fun W' (h':X2 B ts A cap W' st)=>Kfh h' ⟨#[110,111,116]⟩ ai;have e1:Kc6 ts st ⟨#[45]⟩=st:=by unfold Kc6;rw [h1,if_neg (by simp)]
   have e2:Kc6 ts st ⟨#[110,111,116]⟩=⟨st.pos+1,st.bad⟩:=by unfold Kc6;rw [h2,if_pos rfl]
   rw [h1,e1] at gJ;rw [h2,e2] at nQ;rw [e2];have hu1:=hu ⟨st.pos+1,st.bad⟩ (by simp) (by simp;omega);generalize K3 ts f .unary ⟨st.pos+1,st.bad⟩=R at hu1 ⊢;unfold Kdq Ke9 exV at hu1;clear vh hu eB h1 h2 e1 e2
   go_enter Tryz.func107,Tryz.ntmps107
   go_wp2_with (first
    | (go_at_call_of 18 (Value.string ⟨#[45]⟩);go_loud (refine gJ.mono ?_;rintro r w1 ⟨rfl,ii,cD⟩))
    | (go_at_call_of 18 (Value.string ⟨#[110,111,116]⟩);go_loud (refine(nQ _ ii).mono ?_;rintro r w2 ⟨rfl,gL,dz⟩))
    | (go_at_call 107;go_loud (refine(hu1 _ gL).mono ?_;rintro r w3 ⟨⟨_,rfl,A3,c3,rfl,ho3⟩,ip,dU⟩;have hk:=cD.trans' (dz.trans' dU);have aW:=K1 hk;have bS:=kfz hk;have hz:=hk.size;have hz12:=(cD.trans' dz).size;(try simp at hz hz12);have dG:W.heap.size<w3.heap.size:=(by omega))))
   refine bodyPost_ret (v:=exV (.mk 4 2 ⟨#[]⟩ [R.1]) (some ⟨w3.heap.size,0,none⟩) 1) (by simp [results,Tryz.results107,go_sem,exV,Ex.kind,Ex.n,Ex.name,Ex.sub, *]) rfl ?_;exact⟨⟨_,rfl,_,_,rfl,Kk1 ho3 (by omega) (by omega) (by omega)⟩,Kga ip cm _ _ _ _ _,Kfp (K2 hk) (Nat.le_refl _) _ _ _ _ _⟩
 ·rw [if_pos rfl];have am:=Ket h1;have gJ:=vh (.cells #[.int .i64 0,.int .i32 0,.string ⟨#[]⟩,.slice none 0 0] 73) ⟨#[45]⟩;have e1:Kc6 ts st ⟨#[45]⟩=⟨st.pos+1,st.bad⟩:=by unfold Kc6;rw [h1,if_pos rfl]
  rw [h1,e1] at gJ;rw [e1];have hu1:=hu ⟨st.pos+1,st.bad⟩ (by simp) (by simp;omega);generalize K3 ts f .unary ⟨st.pos+1,st.bad⟩=R at hu1 ⊢;unfold Kdq Ke9 exV at hu1;clear vh hu eB h1 e1
  go_enter Tryz.func107,Tryz.ntmps107
  go_wp2_with (first
   | (go_at_call_of 18 (Value.string ⟨#[45]⟩);go_loud (refine gJ.mono ?_;rintro r w1 ⟨rfl,ii,cD⟩))
   | (go_at_call 107;go_loud (refine(hu1 _ ii).mono ?_;rintro r w3 ⟨⟨_,rfl,A3,c3,rfl,ho3⟩,ip,dU⟩;have hk:=cD.trans' dU;have aW:=K1 hk;have bS:=kfz hk;have hz:=hk.size;have hz12:=(cD).size;(try simp at hz hz12);have dG:W.heap.size<w3.heap.size:=(by omega))))
  refine bodyPost_ret (v:=exV (.mk 4 1 ⟨#[]⟩ [R.1]) (some ⟨w3.heap.size,0,none⟩) 1) (by simp [results,Tryz.results107,go_sem,exV,Ex.kind,Ex.n,Ex.name,Ex.sub, *]) rfl ?_;exact⟨⟨_,rfl,_,_,rfl,Kk1 ho3 (by omega) (by omega) (by omega)⟩,Kga ip cm _ _ _ _ _,Kfp (K2 hk) (Nat.le_refl _) _ _ _ _ _⟩
theorem Kjj {B:Nat} {ts:List Tk} {A:Option Addr} {cap:Nat} {st:St} {W:World} (h:X2 B ts A cap W st) (k:Int) (ai:ts.length<=100000) :
  Calls Tryz.prog 83 #[.pointer (some ⟨B,0,none⟩),.int .i64 k] W (Keu B ts A cap W (tkV (Kdy ts st k).1) (Kdy ts st k).2):=by
 have cm:=h.lt;have nn:=h.le
 obtain⟨o,t,hn,ho⟩:∃(o:Bool) (t:Tk),(∀W',Below W.heap.size W W'->Calls Tryz.prog 85 #[.pointer (some ⟨B,0,none⟩)] W' fun r w'=>r = .returned (.tuple #[tkV t,.bool o])/\Below W'.heap.size W' w')/\
   Kdy ts st k=if o && (t.kind == k) then(t,⟨st.pos+1,st.bad⟩) else(tkZ,⟨st.pos,true⟩):=⟨(Kc7 ts st).isSome,(Kc7 ts st).getD tkZ,fun W' hb=>Kej (h.later hb),by unfold Kdy;cases Kc7 ts st <;> simp⟩
 have am:o=true->t.kind=k->st.pos+1<=ts.length:=fun e1 e2=>by
  have hg:=(Khc ts st k).2 nn;rw [ho,e1,e2] at hg;simpa using hg
 have HP:=Lib.hid h;generalize Kdy ts st k=V at ho ⊢;obtain⟨tk,tx,tn,tp⟩:=t;unfold tkV at hn;dsimp only at hn ho am
 cases o
 ·rw [Bool.false_and,if_neg (by decide)] at ho;have HV:=Lib.hid ho;clear ho am h
  go_enter Tryz.func83,Tryz.ntmps83
  go_wp2_with (go_at_call 85;go_loud (refine(hn _ Jb).mono ?_;rintro r w1 ⟨rfl,ac⟩;have aC:Below W.heap.size W w1:=(by exact Jb);have wu:=HP.out.later aC;have dm:=wu.c2;have gO:=wu.f2;have cF:=wu.lt;have aW:=Jg ac;have bS:=Jf ac;have af:=ac.size;(try simp at af);have dG:W.heap.size<w1.heap.size:=(by omega)))
  refine bodyPost_ret (v:=tkV tkZ) (by simp [results,Tryz.results83,go_sem,tkV,tkZ, *]) rfl ?_;rw [HV.out];exact⟨rfl,((wu.fall true).beyond4 cm _ _ _ _).alloc _,(((J6.bel (S:=fun b=>b=B) aC).setCell (b:=B) rfl _ _).fresh4 (Nat.le_refl _) _ _ _ _).alloc _⟩
 ·cases hk:(tk == k)
  ·have dz:(tk != k)=true:=by simpa using hk
   rw [hk,Bool.and_false,if_neg (by decide)] at ho;have HV:=Lib.hid ho;clear ho am h hk
   go_enter Tryz.func83,Tryz.ntmps83
   go_wp2_with (go_at_call 85;go_loud (refine(hn _ Jb).mono ?_;rintro r w1 ⟨rfl,ac⟩;have aC:Below W.heap.size W w1:=(by exact Jb);have wu:=HP.out.later aC;have dm:=wu.c2;have gO:=wu.f2;have cF:=wu.lt;have aW:=Jg ac;have bS:=Jf ac;have af:=ac.size;(try simp at af);have dG:W.heap.size<w1.heap.size:=(by omega)))
   refine bodyPost_ret (v:=tkV tkZ) (by simp [results,Tryz.results83,go_sem,tkV,tkZ, *]) rfl ?_;rw [HV.out];exact⟨rfl,((wu.fall true).beyond4 cm _ _ _ _).alloc _,(((J6.bel (S:=fun b=>b=B) aC).setCell (b:=B) rfl _ _).fresh4 (Nat.le_refl _) _ _ _ _).alloc _⟩
  ·have dz:(tk != k)=false:=by simpa using hk
   rw [hk,Bool.true_and,if_pos rfl] at ho;have hp:=am rfl (by simpa using hk);have HV:=Lib.hid ho;clear ho am h hk
   go_enter Tryz.func83,Tryz.ntmps83
   go_wp2_with (go_at_call 85;go_loud (refine(hn _ Jb).mono ?_;rintro r w1 ⟨rfl,ac⟩;have aC:Below W.heap.size W w1:=(by exact Jb);have wu:=HP.out.later aC;have ak:=wu.c1;have db:=wu.f1;have cF:=wu.lt;have aW:=Jg ac;have bS:=Jf ac;have af:=ac.size;(try simp at af);have dG:W.heap.size<w1.heap.size:=(by omega)))
   refine bodyPost_ret (v:=tkV ⟨tk,tx,tn,tp⟩) (by simp [results,Tryz.results83,go_sem,tkV,tkZ, *]) rfl ?_;rw [HV.out];exact⟨rfl,((wu.pos _ hp).beyond4 cm _ _ _ _).alloc _,(((J6.bel (S:=fun b=>b=B) aC).setCell (b:=B) rfl _ _).fresh4 (Nat.le_refl _) _ _ _ _).alloc _⟩
theorem Knd (k:Int) (x:ByteArray) (n p:Int) (w:World):(Instr.field 103 (.agg #[.int .i64 k,.string x,.int .i32 n,.int .i64 p]) 1).run Tryz.prog w = .ok (.string x) w:=by kernel_rfl
theorem Kn8 (k:Int) (x:ByteArray) (n p:Int) (w:World):(Instr.field 103 (.agg #[.int .i64 k,.string x,.int .i32 n,.int .i64 p]) 2).run Tryz.prog w = .ok (.int .i32 n) w:=by kernel_rfl
theorem Kfd {B:Nat} {ts:List Tk} {A:Option Addr} {cap:Nat} {st:St} {W:World} (h:X2 B ts A cap W st) (ai:ts.length<=100000) :
  Calls Tryz.prog 38 #[.pointer (some ⟨B,0,none⟩)] W (Keu B ts A cap W (.string (Kdn ts st).1) (Kdn ts st).2):=by
 have wR:=Kjj h 1 ai;have hv:Kdn ts st=((Kdy ts st 1).1.text,(Kdy ts st 1).2):=rfl;generalize Kdn ts st=V at hv ⊢;generalize Kdy ts st 1=t at wR hv;have HV:=Lib.hid hv;clear hv h;obtain⟨⟨tk,tx,tn,tp⟩,st1⟩:=t;unfold tkV at wR;dsimp only at wR;have jS:=Knd tk tx tn tp
 go_enter Tryz.func38,Tryz.ntmps38
 go_wp2_with (go_at_call 83;go_loud (refine wR.mono ?_;rintro r w1 ⟨rfl,ii,cD⟩))
 go_ret;rw [HV.out];exact⟨rfl,ii,cD⟩
theorem Kfy {B:Nat} {ts:List Tk} {A:Option Addr} {cap:Nat} {st:St} {W:World} (h:X2 B ts A cap W st) (fin:Int) :
  Calls Tryz.prog 19 #[.pointer (some ⟨B,0,none⟩),.int .i64 fin] W fun r w'=>r = .returned (.int .i64 (Ke6 ts st.pos fin))/\Below W.heap.size W w':=by
 obtain⟨p,bad⟩:=st;have cm:=h.lt;obtain⟨h0,h1,-,-,-,-,ht,nn⟩:=h;dsimp only at h1 nn ⊢;have ak:=ht.1;have dm:=ht.2.1;unfold maxLen at dm
 by_cases hp:p<ts.length
 ·have hx:ts[p]?=some ts[p]:=List.getElem?_eq_getElem hp;generalize ts[p]=t at hx;have hv:Ke6 ts p fin=t.pos:=by simp [Ke6,hx]
  rw [hv];obtain⟨b,off,rfl,hbB,ij,d0,d1,d2,d3⟩:=ht.get hx;have hd:decide ((p:Int)<(ts.length:Int))=true:=by simp;omega
  have hpi:(p:Int)<(ts.length:Int):=by omega
  clear ht hx hv
  go_enter Tryz.func19,Tryz.ntmps19
  go_wp2_with fail
  go_quiet (fail)
  go_wp2_with fail
  go_quiet (fail)
  go_wp2_with fail
  go_ret;exact⟨rfl,Jb⟩
 ·have hv:Ke6 ts p fin=fin:=by
   unfold Ke6;rw [List.getElem?_eq_none (by omega)]
  rw [hv];have hd:decide ((p:Int)<(ts.length:Int))=false:=by simp;omega
  clear ht hv
  go_enter Tryz.func19,Tryz.ntmps19
  go_wp2_with fail
  go_quiet (fail)
  go_wp2_with fail
  go_ret;exact⟨rfl,Jb⟩
theorem Kl8 {B:Nat} {ts:List Tk} {A:Option Addr} {cap f:Nat} {st:St} {W:World} (ih:Kgx B ts A cap f) (h:X2 B ts A cap W st) (ai:ts.length<=100000) (hf:12 * (ts.length-st.pos)+10<f+1) :
  Calls Tryz.prog 43 #[.pointer (some ⟨B,0,none⟩)] W (Kdq B ts A cap W (K3 ts (f+1) .expr st)):=by
 have cm:=h.lt;have nn:=h.le;have aS:W.heap.size≠B:=by omega
 have hlv:=fun W' (hp:X2 B ts A cap W' st)=>(ih st W' hp).2.1 0 (by omega) (by omega);have hg:=Ke3 ts f (.level 0) st;rw [K3];obtain⟨L,hL⟩:∃L,L=K3 ts f (.level 0) st:=⟨_,rfl⟩;rw [<-hL] at hlv hg ⊢;clear hL;obtain⟨x,st1⟩:=L;have hx:∀st',st1.pos<st'.pos->st'.pos<=ts.length->∀W',X2 B ts A cap W' st'->Calls Tryz.prog 43 #[.pointer (some ⟨B,0,none⟩)] W' (Kdq B ts A cap W' (K3 ts f .expr st')):=fun st' h1 h2 W' hp=>(ih st' W' hp).1 (by have:=hg.1;simp at this;omega);have vh:=fun W' (hp:X2 B ts A cap W' st1)=>Kfh hp ⟨#[45,62]⟩ ai;unfold Kdq Ke9 exV at hlv;have hle1:=hg.2 nn;dsimp only at vh hle1 hlv ⊢;have HP:=Lib.hid h;clear ih h
 cases h1:Kc5 ts st1 ⟨#[45,62]⟩
 ·rw [if_neg (by simp)];have e1:Kc6 ts st1 ⟨#[45,62]⟩=st1:=by unfold Kc6;rw [h1,if_neg (by simp)]
  rw [h1,e1] at vh;clear hx h1 e1 hg
  go_enter Tryz.func43,Tryz.ntmps43
  go_wp2_with (first
   | (go_at_call 86;go_loud (refine(hlv _ (HP.out.alloc _)).mono ?_;rintro r w1 ⟨⟨_,rfl,A1,c1,rfl,ln⟩,ii,cD⟩;have af:=cD.size;(try simp at af);have dG:W.heap.size<w1.heap.size:=(by omega);have er:w1.heap.size≠B:=(by omega)))
   | (go_at_call 18;go_loud (refine(vh _ (ii.alloc _)).mono ?_;rintro r w2 ⟨rfl,gL,dz⟩;have hk:=cD.trans' (K2 dz);have aW:=K1 hk;have bS:=kfz hk;have dm:=K1 dz;have br:=dz.size;(try simp at br);have cA:W.heap.size<w2.heap.size:=(by omega);have kh:w1.heap.size<w2.heap.size:=(by omega))))
  refine bodyPost_ret (v:=exV x A1 c1) (by simp [results,Tryz.results43,go_sem,exV, *]) rfl ?_;exact⟨⟨_,rfl,A1,c1,rfl,Kgf ((Kfo ln _).kept (by simp;omega) dz) (by simp) (by simp) _ _ _ _⟩,Kd0 gL cm _ _ _ _,Kdp (K2 hk) (Nat.le_refl _) _ _ _ _⟩
 ·rw [if_pos rfl];have am:=Ket h1;have e1:Kc6 ts st1 ⟨#[45,62]⟩=⟨st1.pos+1,st1.bad⟩:=by unfold Kc6;rw [h1,if_pos rfl]
  rw [h1,e1] at vh;rw [e1];have vK:=hx ⟨st1.pos+1,st1.bad⟩ (by simp) (by simp;omega);generalize K3 ts f .expr ⟨st1.pos+1,st1.bad⟩=R at vK ⊢;unfold Kdq Ke9 exV at vK;clear hx h1 e1 hg
  go_enter Tryz.func43,Tryz.ntmps43
  go_wp2_with (first
   | (go_at_call 86;go_loud (refine(hlv _ (HP.out.alloc _)).mono ?_;rintro r w1 ⟨⟨_,rfl,A1,c1,rfl,ln⟩,ii,cD⟩;have af:=cD.size;(try simp at af);have dG:W.heap.size<w1.heap.size:=(by omega);have er:w1.heap.size≠B:=(by omega)))
   | (go_at_call 18;go_loud (refine(vh _ (ii.alloc _)).mono ?_;rintro r w2 ⟨rfl,gL,dz⟩;have dm:=K1 dz;have br:=dz.size;(try simp at br);have kh:w1.heap.size<w2.heap.size:=(by omega))))
  have q0:w2.cell? ⟨w1.heap.size,0,none⟩=some (.int .i64 x.kind):=by rw [dm _ _ er (by simp)];go_simp
  have q1:w2.cell? ⟨w1.heap.size,1,none⟩=some (.int .i32 x.n):=by rw [dm _ _ er (by simp)];go_simp
  have q2:w2.cell? ⟨w1.heap.size,2,none⟩=some (.string x.name):=by rw [dm _ _ er (by simp)];go_simp
  have q3:w2.cell? ⟨w1.heap.size,3,none⟩=some (.slice A1 x.sub.length c1):=by rw [dm _ _ er (by simp)];go_simp
  refine Kd (fun V:World=>V.cell? ⟨w1.heap.size,0,none⟩=some (.int .i64 x.kind)/\V.cell? ⟨w1.heap.size,1,none⟩=some (.int .i32 x.n)/\V.cell? ⟨w1.heap.size,2,none⟩=some (.string x.name)/\V.cell? ⟨w1.heap.size,3,none⟩=some (.slice A1 x.sub.length c1)) 3 3 (by kernel_rfl) (by rfl) ?_;simp only [List.size_toArray,List.length_cons,List.length_nil,Nat.zero_add,Nat.reduceAdd];have ar:w2.drew.cell? ⟨w1.heap.size,0,none⟩=some (.int .i64 x.kind)/\w2.drew.cell? ⟨w1.heap.size,1,none⟩=some (.int .i32 x.n)/\w2.drew.cell? ⟨w1.heap.size,2,none⟩=some (.string x.name)/\w2.drew.cell? ⟨w1.heap.size,3,none⟩=some (.slice A1 x.sub.length c1):=⟨q0,q1,q2,q3⟩;refine Ji 0 ar ?_;refine Ji 1 ar ?_;refine Kb 2 ?_;refine Jj fun K hK=>?_;go_simp;refine(vK _ gL.drew).mono ?_;rintro r w3 ⟨⟨_,rfl,A3,c3,rfl,ho3⟩,ip,dU⟩;dsimp only;have kE:=K1 dU;refine hK _ _ ⟨⟨(kE _ _ er kh).trans q0,(kE _ _ er kh).trans q1,(kE _ _ er kh).trans q2,(kE _ _ er kh).trans q3⟩,?_⟩;clear hK K
  try simp only [Act.put,sa1,sa2,sa3]
  have hk:=cD.trans' ((K2 dz).drew.trans' dU);have aW:=K1 hk;have bS:=kfz hk;have hz:=hk.size;have fe:w2.heap.size<=w3.heap.size:=dU.size;simp at hz;have cA:W.heap.size<w3.heap.size:=by omega
  have ho1':Off (W.heap.size+1) none w3 (fun V=>Jt V x A1 c1):=by
   have:=((Kfo ln (.cells #[.int .i64 x.kind,.int .i32 x.n,.string x.name,.slice A1 x.sub.length c1] 73)).kept (by simp;omega) (dz.drew.trans' dU));simpa using this
  clear dm kE q0 q1 q2 q3 ar cD dz dU ln;refine Kh (by kernel_rfl) ?_;refine Qx 3 ?_;refine Jj fun K hK=>?_;go_simp;refine hK _ _ ?_;clear hK K
  try simp only [Act.put,sa1,sa2,sa3]
  refine Qx 4 ?_;refine Jj fun K hK=>?_;go_simp;refine hK _ _ ?_;clear hK K
  try simp only [Act.put,sa1,sa2,sa3]
  refine Qx 5 ?_;refine Jj fun K hK=>?_;go_simp;refine hK _ _ ?_;clear hK K
  try simp only [Act.put,sa1,sa2,sa3]
  refine Ki (by kernel_rfl) ?_
  go_wp2_with fail
  refine bodyPost_ret (v:=exV (.mk 7 0 ⟨#[]⟩ [x,R.1]) (some ⟨w3.heap.size,0,none⟩) 2) (by simp [results,Tryz.results43,go_sem,exV,Ex.kind,Ex.n,Ex.name,Ex.sub, *]) rfl ?_;exact⟨⟨_,rfl,_,_,rfl,Knp ho1' ho3 (by omega) (by omega) (by show W.heap.size<=w2.heap.size;omega) (by show W.heap.size<w2.heap.size;omega) (by omega)⟩,Kga ip cm _ _ _ _ _,Kfp (K2 hk) (Nat.le_refl _) _ _ _ _ _⟩
theorem Kl0 (ts:List Tk) (st:St):∀(l:List ByteArray),(∀s∈l,s≠⟨#[]⟩)->(Kd7 ts st l).1=⟨#[]⟩->(Kd7 ts st l).2=st
 | [],_,_=>rfl
 | s :: l,h,h0=>by
  unfold Kd7 at h0 ⊢
  split
  ·rename_i hs;rw [if_pos hs] at h0;exact absurd h0 (h s (by simp))
  ·rename_i hs;rw [if_neg hs] at h0;exact Kl0 ts st l (fun x hx=>h x (by simp [hx])) h0
theorem Kj0 {B:Nat} {ts:List Tk} {A:Option Addr} {cap:Nat} {st:St} {W:World} (h:X2 B ts A cap W st) (ai:ts.length<=100000) (l:List ByteArray) (Al:Option Addr) (cl:Nat) (hl:Kfu B W (fun V=>Qf V l Al cl)) :
  Calls Tryz.prog 108 #[.pointer (some ⟨B,0,none⟩),.slice Al l.length cl] W (Keu B ts A cap W (.string (Kd7 ts st l).1) (Kd7 ts st l).2):=by
 have vh:=fun W' (h':X2 B ts A cap W' st) s=>Kfh h' s ai;have hn:=hl.here.len;unfold maxLen at hn;obtain⟨eR,eu⟩:=hn
 go_enter Tryz.func108,Tryz.ntmps108
 go_wp2_with fail
 go_loopw [9] (fun i wr=>∃(k:Nat),k<=l.length/\i = .int .i64 k/\Kd7 ts st (l.drop k)=Kd7 ts st l/\X2 B ts A cap wr st/\J6 (fun b=>b=B) W wr) (fun i _=>l.length-(intOf i).toNat)
 case atStart=>exact⟨0,Nat.zero_le _,rfl,rfl,h,J6.refl _⟩
 case round=>
  obtain⟨k,hk,rfl,aa,wu,sT⟩:=hrel
  by_cases am:k<l.length
  ·obtain⟨x,hx,-,hd⟩:=Kl am;obtain⟨b,off,rfl,aC,c0⟩:=(hl wr sT).get hx;rw [hd,Kd7] at aa;have hse:=vh wr wu x;unfold Kc6 at hse;have hki:(k:Int)<(l.length:Int):=by omega
   cases hs:Kc5 ts st x
   ·rw [hs,if_neg (by simp)] at aa hse;have HR:=Lib.hid aa;clear aa hd hx hs
    go_wp2_with (go_at_call 18;go_loud (refine hse.mono ?_;rintro r w1 ⟨rfl,ii,cD⟩))
    go_roundw
    case rel=>exact⟨k+1,by omega,by go_num,HR.out,ii,sT.trans' cD⟩
    case measure=>simp [intOf];omega
   ·rw [hs,if_pos rfl] at aa hse;have HR:=Lib.hid aa;clear aa hd hx hs
    go_wp2_with (go_at_call 18;go_loud (refine hse.mono ?_;rintro r w1 ⟨rfl,ii,cD⟩))
    go_ret;rw [<-HR.out];exact⟨rfl,ii,sT.trans' cD⟩
  ·obtain rfl:k=l.length:=by omega
   rw [List.drop_length,Kd7] at aa;have HR:=Lib.hid aa;clear aa
   go_wp2_with fail
   go_ret;rw [<-HR.out];exact⟨rfl,wu,sT⟩
section
variable {P:Program} {ops:Array Oper} {Q:Exit->Act->World->Prop} {md:Region.Mode} {S:World->Prop}
theorem Jfe {n g i j:Nat} {oi oj:Oper} {f:Nat} {listed:Array Bool} {a:Act} {w:World} (hr:Region.ready md ops listed = [i,j]) (hi:ops[i]?=some oi) (hj:ops[j]?=some oj) (hg:oi.guard=none) (hgj:oj.guard=none)
  (h:oi.wp P a w (fun a' w'=>S w'/\Jab P md ops Q S n g f (listed.setIfInBounds i true) a' w') Q) (h2:oj.wp P a w (fun a' w'=>S w'/\Jab P md ops Q S n g f (listed.setIfInBounds j true) a' w') Q):Jab P md ops Q S n g (f+1) listed a w:=by
 refine⟨fun h0=>(by rw [hr] at h0;cases h0),fun k hk=>?_⟩;rw [hr] at hk;simp only [List.mem_cons,List.not_mem_nil,or_false] at hk
 rcases hk with rfl|rfl
 ·unfold wpOp;have hw:Region.wanted oi (yielded ops a.tmps)=true:=by simp [Region.wanted,hg]
  simp only [hi,hw,if_true];exact .inl h
 ·unfold wpOp;have hw:Region.wanted oj (yielded ops a.tmps)=true:=by simp [Region.wanted,hgj]
  simp only [hj,hw,if_true];exact .inl h2
theorem Jrr {n g i j l:Nat} {oi oj ol:Oper} {f:Nat} {listed:Array Bool} {a:Act} {w:World} (hr:Region.ready md ops listed = [i,j,l]) (hi:ops[i]?=some oi) (hj:ops[j]?=some oj) (hl:ops[l]?=some ol) (hg:oi.guard=none) (hgj:oj.guard=none) (eS:ol.guard=none)
  (h:oi.wp P a w (fun a' w'=>S w'/\Jab P md ops Q S n g f (listed.setIfInBounds i true) a' w') Q) (h2:oj.wp P a w (fun a' w'=>S w'/\Jab P md ops Q S n g f (listed.setIfInBounds j true) a' w') Q) (h3:ol.wp P a w (fun a' w'=>S w'/\Jab P md ops Q S n g f (listed.setIfInBounds l true) a' w') Q):Jab P md ops Q S n g (f+1) listed a w:=by
 refine⟨fun h0=>(by rw [hr] at h0;cases h0),fun k hk=>?_⟩;rw [hr] at hk;simp only [List.mem_cons,List.not_mem_nil,or_false] at hk
 rcases hk with rfl|rfl|rfl
 ·unfold wpOp;have hw:Region.wanted oi (yielded ops a.tmps)=true:=by simp [Region.wanted,hg]
  simp only [hi,hw,if_true];exact .inl h
 ·unfold wpOp;have hw:Region.wanted oj (yielded ops a.tmps)=true:=by simp [Region.wanted,hgj]
  simp only [hj,hw,if_true];exact .inl h2
 ·unfold wpOp;have hw:Region.wanted ol (yielded ops a.tmps)=true:=by simp [Region.wanted,eS]
  simp only [hl,hw,if_true];exact .inl h3
end
end Go.Proofs.YtdgjplldlfeolaaGreatDoor
