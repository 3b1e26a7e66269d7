/- Lemmas. -/
import Derived.Test.YtdgjplldlfeolaaGreatDoorMac
import Derived.Test.YtdgjplldlfeolaaGreatDoorY09
import Derived.Test.YtdgjplldlfeolaaGreatDoorY00
import Derived.Deep.RegionLaw
import Derived.Test.YtdgjplldlfeolaaGreatDoorY01
import Derived.Test.YtdgjplldlfeolaaGreatDoorY08
import Derived.Laws.CopyOwn
import Derived.Laws.MakeOwn
set_option linter.unusedVariables false
set_option linter.unusedSimpArgs false
set_option maxRecDepth 100000
set_option maxHeartbeats 64000000
namespace Go.Proofs.YtdgjplldlfeolaaGreatDoor
open Go.RowKit Go.Sort
theorem Jul (op:Int):((op == 1)=false/\(op == 2)=false/\(op == 3)=false/\(op == 4)=false/\(op == 5)=false/\(op == 6)=false/\(op == 7)=false/\(op == 8)=false/\(op == 9)=false/\(op == 10)=false/\(op == 11)=false)\/
  op=1\/op=2\/op=3\/op=4\/op=5\/op=6\/op=7\/op=8\/op=9\/op=10\/op=11:=by
 simp only [beq_eq_false_iff_ne,ne_eq];omega
theorem Jdz (op:Int) (w:World):Calls Tryz.prog 115 #[.int .i64 op] w fun r w'=>r = .returned (.int .i64 (Qp op))/\Below w.heap.size w w':=by
 by_cases h1:op=1
 ·subst h1;exact Ubx
 by_cases bM:op=10
 ·subst bM;exact Ubx
 by_cases gh:op=11
 ·subst gh;exact Ubx
 have t1:(op == 1)=false:=Lk;have t10:(op == 10)=false:=F7;have t11:(op == 11)=false:=by simpa using gh
 by_cases hg:1<op
 ·by_cases hl:op<10
  ·have hv:Qp op=1:=by unfold Qp;rw [if_neg h1,if_neg Ua,if_pos ⟨hg,hl⟩]
   exact Uav
  ·have hv:Qp op=0:=by unfold Qp;rw [if_neg h1,if_neg Ua,if_neg (fun h=>hl h.2)]
   exact Uav
 ·have hv:Qp op=0:=by unfold Qp;rw [if_neg h1,if_neg Ua,if_neg (fun h=>hg h.1)]
  exact Uav
def Jbu (op:Int):Int:=if op=8 then 2 else if op=9 then 16 else if op=10\/op=11 then 65535 else 255
theorem Jm1 (op:Int) (w:World):Calls Tryz.prog 116 #[.int .i64 op] w fun r w'=>r = .returned (.int .i32 (Jbu op))/\w'=w:=by
 by_cases h:op=8\/op=9\/op=10\/op=11
 ·rcases h with rfl|rfl|rfl|rfl
  all_goals
   go_enter Tryz.func116,Tryz.ntmps116
   go_wp2_with fail
   go_ret;exact⟨Jm Ug,rfl⟩
 ·have t8:(op == 8)=false:=Ui;have t9:(op == 9)=false:=Ui;have t10:(op == 10)=false:=Ui;have t11:(op == 11)=false:=Ui;have hv:Jbu op=255:=by unfold Jbu;rw [if_neg Ua,if_neg Ua,if_neg Ua]
  clear h;have HV:=Nf hv;clear hv
  go_enter Tryz.func116,Tryz.ntmps116
  go_wp2_with fail
  go_ret;exact⟨Jm HV.out.symm,rfl⟩
theorem Jrp (op:Int):(Qp op=0)\/(op=1/\Qp op=4)\/((op=8\/op=9)/\Qp op=1)\/((op=10\/op=11)/\Qp op=2)\/((2<=op/\op<=7)/\Qp op=1):=by
 unfold Qp
 repeat' split
 all_goals omega
theorem Joo {op n:Int} (h1:op=8\/op=9):Qj (op,n)=if n<1\/Jbu op<n then 9 else 0:=by
 rcases h1 with rfl|rfl
 ·simp only [Qj,Qp,Jbu]
  by_cases h:n<1\/2<n
  ·simp [h]
  ·simp [h];omega
 ·simp only [Qj,Qp,Jbu]
  by_cases h:n<1\/16<n
  ·simp [h]
  ·simp [h];omega
theorem Job {op n:Int} (h1:op=10\/op=11\/(2<=op/\op<=7)):Qj (op,n)=if n<0\/Jbu op<n then 10 else 0:=by
 rcases h1 with rfl|rfl|h1
 ·simp [Qj,Qp,Jbu]
 ·simp [Qj,Qp,Jbu]
 ·have hw:Qp op=1:=by unfold Qp;rw [if_neg Ua,if_neg Ua,if_pos Ua]
  have hm:Jbu op=255:=by unfold Jbu;rw [if_neg Ua,if_neg Ua,if_neg Ua]
  unfold Qj;rw [hw,hm];dsimp only;rw [if_neg Ug,if_neg Ug,if_neg (fun h=>Ua),if_neg (fun h=>Ua),if_neg (fun h=>absurd h.1 Ug)];exact Uh
def Jby (op n:Int) (w:World):Prop:=Calls Tryz.prog 95 #[.agg #[.int .i64 op,.int .i32 n]] w fun r w'=>r = .returned (.int .i64 (Qj (op,n)))/\Below w.heap.size w w'
theorem Jqz (op n:Int) (w:World) (h:Qp op=0):Jby op n w:=by
 unfold Jby
 have cO:=fun W=>Jdz op W;have hv:Qj (op,n)=9:=by unfold Qj;rw [if_pos h]
 exact B9
theorem Jqo (op n:Int) (w:World) (h:Qp op=4):Jby op n w:=by
 unfold Jby
 have cO:=fun W=>Jdz op W;have hv:Qj (op,n)=0:=by unfold Qj;rw [if_neg (by rw [h];decide),if_pos h]
 exact B9
theorem Jpc (op n:Int) (w:World) (h1:op=8\/op=9):Jby op n w:=by
 unfold Jby
 have cO:=fun W=>Jdz op W;have fp:=fun W=>Jm1 op W;have h:Qp op=1:=by rcases h1 with rfl|rfl <;> rfl
 have hr:=Joo (n:=n) h1;rw [h] at cO
 have tn:((op == 8)=true/\(op == 9)=false)\/((op == 8)=false/\(op == 9)=true):=by
  rcases h1 with rfl|rfl
  ·exact .inl ⟨rfl,rfl⟩
  ·exact .inr ⟨rfl,rfl⟩
 have eU:1<=Jbu op:=by rcases h1 with rfl|rfl <;> decide
 clear h h1;generalize Jbu op=m at *
 by_cases c1:n<1
 ·have hv:Qj (op,n)=9:=by rw [hr,if_pos (.inl c1)]
  have d1:decide (n<1)=true:=Ff;clear hr c1 eU;exact Bp
 have d1:decide (n<1)=false:=Ff
 by_cases c2:m<n
 ·have hv:Qj (op,n)=9:=by rw [hr,if_pos (.inr c2)]
  have d2:decide (m<n)=true:=Fg;clear hr c1 c2 eU;exact Bp
 ·have hv:Qj (op,n)=0:=by rw [hr,if_neg Ua]
  have d2:decide (m<n)=false:=Fg;have d0:decide (n<0)=false:=Ui;clear hr c1 c2 eU;have HV:=Nf hv;clear hv
  rcases tn with ⟨t8,t9⟩|⟨t8,t9⟩
  all_goals
   go_enter Tryz.func95,Tryz.ntmps95
   go_wp2_with (first|(go_at_call 115;refine mo (cO _) fun w1 ac ak af bV=>?_;(try simp at af)))
   go_quiet ((go_at_call 116;exact Calls.quiet_of_same (fp _)))
   go_wp2_with fail
   refine Jo fun W1 bt=>?_;have q0:=Na W1 w.heap.size 0 op Ve;have q1:=Nb W1 w.heap.size 1 (.int .i32 n) Ve;have aC:=Nd w W1 Fz;clear bt
   go_quiet ((go_at_call 116;exact Calls.quiet_of_same (fp _)))
   go_wp2_with fail
   go_ret;exact⟨Jm HV.out.symm,Jb⟩
theorem Jhs (op n:Int) (w:World) (h1:op=10\/op=11\/(2<=op/\op<=7)):Jby op n w:=by
 unfold Jby
 have cO:=fun W=>Jdz op W;have fp:=fun W=>Jm1 op W;have t8:(op == 8)=false:=Ui;have t9:(op == 9)=false:=Ui
 have dz:(Qp op == 0)=false/\(Qp op == 4)=false:=by
  have:Qp op=2\/Qp op=1:=by
   unfold Qp
   repeat' split
   all_goals omega
  rcases this with h|h <;> rw [h] <;> decide
 obtain⟨k0,k4⟩:=dz;have hr:=Job (n:=n) h1;clear h1;generalize Qp op=k at *;generalize Jbu op=m at *
 by_cases c1:n<0
 ·have hv:Qj (op,n)=10:=by rw [hr,if_pos (.inl c1)]
  have d1:decide (n<0)=true:=Ff;clear hr c1;have HV:=Nf hv;clear hv
  go_enter Tryz.func95,Tryz.ntmps95
  go_wp2_with (first|(go_at_call 115;refine mo (cO _) fun w1 ac ak af bV=>?_;(try simp at af)))
  go_quiet ((go_at_call 116;exact Calls.quiet_of_same (fp _)))
  go_wp2_with fail
  refine Jo fun W1 bt=>?_;have q0:=Na W1 w.heap.size 0 op Ve;have q1:=Nb W1 w.heap.size 1 (.int .i32 n) Ve;have aC:=Nd w W1 Fz;clear bt
  go_quiet ((go_at_call 116;exact Calls.quiet_of_same (fp _)))
  go_wp2_with fail
  exact Uc3
 have d1:decide (n<0)=false:=Ff
 by_cases c2:m<n
 ·have hv:Qj (op,n)=10:=by rw [hr,if_pos (.inr c2)]
  have d2:decide (m<n)=true:=Fg;exact Ba
 ·have hv:Qj (op,n)=0:=by rw [hr,if_neg Ua]
  have d2:decide (m<n)=false:=Fg;exact Ba
theorem Jlr (op n:Int) (w:World):Jby op n w:=by
 rcases Jrp op with h|⟨h1,h⟩|⟨h1,h⟩|⟨h1,h⟩|⟨h1,h⟩
 ·exact Jqz op n w h
 ·exact Jqo op n w h
 ·exact Jpc op n w h1
 ·exact Jhs op n w Ua
 ·exact Jhs op n w Ua
theorem Off.kept {base B:Nat} {W W':World} {P:World->Prop} (h:Off base none W P) (hB:B<base) (hk:J6 (fun b=>b=B) W W'):Off base none W' P:=
 h.grow (fun k h1 h2 _=>hk.block k h2 (by show ¬k=B;omega)) hk.size (.inl rfl)
theorem Kex (base:Nat) (W:World) {P:World->Prop} (h:∀V,P V):Off base none W P:=fun V _=>h V
theorem Ke2 (V:World) {k n:Int} {nm:ByteArray} {A:Option Addr} {cap:Nat} (hc:cap<=maxLen):Jt V (.mk k n nm []) A cap:=by
 rw [Jao];exact⟨Np,hc,fun h=>by simp [Ex.sub] at h⟩
theorem Kh2 {base g:Nat} {W:World} {k n:Int} {nm:ByteArray} {l:List Ex} {ls:List (Option Addr×Nat)} (hg:base<=g) (am:g<W.heap.size) (hl:ls.length=l.length) (hn:l.length<=100)
  (hc:∀j u,(Ya l ls)[j]?=some u->W.cell? ⟨g,j,none⟩=some u) (hs:∀(j:Nat) (y:Ex) (a:Option Addr×Nat),l[j]?=some y->ls[j]?=some a->Off base none W (fun V=>Jt V y a.1 a.2)) :
  Off base none W (fun V=>Jt V (.mk k n nm l) (some ⟨g,0,none⟩) l.length):=fun w' jC=>by
 show Jt w' _ _ _;rw [Jao];refine⟨Ns _,Uo,fun _=>⟨g,0,rfl,Xv.of_cells _ ls 0 hl (fun j u hj=>?_) fun j y a hy ha=>hs j y a hy ha w' jC⟩⟩;rw [Nat.zero_add];exact Jr (jC g hg am Uh) (hc j u hj)
theorem Klc {base g:Nat} {W:World} {k n:Int} {nm:ByteArray} {x:Ex} {a:Option Addr} {c:Nat} (hg:base<=g) (am:g<W.heap.size)
  (hc:∀j u,(exC x (a,c))[j]?=some u->W.cell? ⟨g,j,none⟩=some u) (h:Off base none W (fun V=>Jt V x a c)):Off base none W (fun V=>Jt V (.mk k n nm [x]) (some ⟨g,0,none⟩) 1):=
 Kh2 (l:=[x]) (ls:=[(a,c)]) hg am rfl Uh (fun j u hj=>hc j u Du) fun j y b hy hb=>by
  match j,hy,hb with
  | 0,hy,hb=>simp at hy hb;subst hy hb;exact h
theorem Kk6 {base g:Nat} {W:World} {k n:Int} {nm:ByteArray} {x y:Ex} {a b:Option Addr} {c d:Nat} (hg:base<=g) (am:g<W.heap.size)
  (hc:∀j u,(exC x (a,c) ++ exC y (b,d))[j]?=some u->W.cell? ⟨g,j,none⟩=some u) (h:Off base none W (fun V=>Jt V x a c)) (h':Off base none W (fun V=>Jt V y b d)):Off base none W (fun V=>Jt V (.mk k n nm [x,y]) (some ⟨g,0,none⟩) 2):=
 Kh2 (l:=[x,y]) (ls:=[(a,c),(b,d)]) hg am rfl Uh (fun j u hj=>hc j u Du) fun j z e hz he=>by
  match j,hz,he with
  | 0,hz,he=>simp at hz he;subst hz he;exact h
  | 1,hz,he=>simp at hz he;subst hz he;exact h'
theorem Klv {base g:Nat} {W:World} {k n:Int} {nm:ByteArray} {x y z:Ex} {a b a3:Option Addr} {c d c3:Nat} (hg:base<=g) (am:g<W.heap.size)
  (hc:∀j u,(exC x (a,c) ++ (exC y (b,d) ++ exC z (a3,c3)))[j]?=some u->W.cell? ⟨g,j,none⟩=some u) (h:Off base none W (fun V=>Jt V x a c)) (h':Off base none W (fun V=>Jt V y b d)) (h3:Off base none W (fun V=>Jt V z a3 c3)):Off base none W (fun V=>Jt V (.mk k n nm [x,y,z]) (some ⟨g,0,none⟩) 3):=
 Kh2 (l:=[x,y,z]) (ls:=[(a,c),(b,d),(a3,c3)]) hg am rfl Uh (fun j u hj=>hc j u Du) fun j q e hq he=>by
  match j,hq,he with
  | 0,hq,he=>simp at hq he;subst hq he;exact h
  | 1,hq,he=>simp at hq he;subst hq he;exact h'
  | 2,hq,he=>simp at hq he;subst hq he;exact h3
def Ke9 (base:Nat) (W:World) (v:Value) (e:Ex):Prop:=∃A cap,v=exV e A cap/\Off base none W (fun V=>Jt V e A cap)
theorem Ke9.less {base b2:Nat} {W:World} {v:Value} {e:Ex} (h:Ke9 b2 W v e) (hb:base<=b2):Ke9 base W v e:=by
 obtain⟨A,cap,hv,h⟩:=h;exact⟨A,cap,hv,h.less hb⟩
theorem Ke9.kept {base B:Nat} {W W':World} {v:Value} {e:Ex} (h:Ke9 base W v e) (hB:B<base) (hk:J6 (fun b=>b=B) W W'):Ke9 base W' v e:=by
 obtain⟨A,cap,hv,h⟩:=h;exact⟨A,cap,hv,h.kept hB hk⟩
def Kdq (B:Nat) (ts:List Tk) (A:Option Addr) (cap:Nat) (W:World) (x:Ex×St) (r:Ending) (W':World):Prop:=
 (∃v,r = .returned v/\Ke9 W.heap.size W' v x.1)/\X2 B ts A cap W' x.2/\J6 (fun b=>b=B) W W'
theorem J6.fresh {S:Nat->Prop} {W W':World} (h:J6 S W W') {c:Nat} (hc:W.heap.size<=c) (o:Nat) (u:Value):J6 S W (W'.setCell ⟨c,o,none⟩ u):=
 ⟨h.os,h.tape,h.output,by rw [show(W'.setCell ⟨c,o,none⟩ u).heap.size=W'.heap.size from by simp];exact h.size,fun k hk hs=>by
  rw [heap_setCell_other _ _ _ _ (by show k≠c;omega)];exact h.block k hk hs⟩
theorem J6.fresh4 {S:Nat->Prop} {W W':World} (h:J6 S W W') {c:Nat} (hc:W.heap.size<=c) (v0 v1 v2 v3:Value):J6 S W ((((W'.setCell ⟨c,0,none⟩ v0).setCell ⟨c,1,none⟩ v1).setCell ⟨c,2,none⟩ v2).setCell ⟨c,3,none⟩ v3):=
 (((h.fresh hc _ _).fresh hc _ _).fresh hc _ _).fresh hc _ _
theorem X2.beyond {B:Nat} {ts:List Tk} {A:Option Addr} {cap:Nat} {W:World} {st:St} (h:X2 B ts A cap W st) {c:Nat} (hc:B<c) (o:Nat) (u:Value):X2 B ts A cap (W.setCell ⟨c,o,none⟩ u) st:=by
 have ne:∀b j,b<=B->(W.setCell ⟨c,o,none⟩ u).cell? ⟨b,j,none⟩=W.cell? ⟨b,j,none⟩:=fun b j hb=>Qm _ _ _ _ _ _ Ua;refine⟨(ne _ _ (Ns _)).trans h.c0,(ne _ _ (Ns _)).trans h.c1,(ne _ _ (Ns _)).trans h.c2,(World.frozen?_setCell ..).trans h.f1,(World.frozen?_setCell ..).trans h.f2,(World.frozen?_setCell ..).trans h.f0,⟨h.toks.1,h.toks.2.1,fun hl=>?_⟩,h.le⟩;obtain⟨b,off,hA,hB,hr⟩:=h.toks.2.2 hl;refine⟨b,off,hA,hB,fun k t ht=>⟨?_,?_,?_,?_⟩⟩ <;> rw [ne _ _ Ua]
 ·exact(hr k t ht).c0
 ·exact(hr k t ht).c1
 ·exact(hr k t ht).c2
 ·exact(hr k t ht).c3
theorem X2.beyond4 {B:Nat} {ts:List Tk} {A:Option Addr} {cap:Nat} {W:World} {st:St} (h:X2 B ts A cap W st) {c:Nat} (hc:B<c) (v0 v1 v2 v3:Value):X2 B ts A cap ((((W.setCell ⟨c,0,none⟩ v0).setCell ⟨c,1,none⟩ v1).setCell ⟨c,2,none⟩ v2).setCell ⟨c,3,none⟩ v3) st:=
 (((h.beyond hc _ _).beyond hc _ _).beyond hc _ _).beyond hc _ _
theorem X2.alloc {B:Nat} {ts:List Tk} {A:Option Addr} {cap:Nat} {W:World} {st:St} (h:X2 B ts A cap W st) (o:Obj):X2 B ts A cap (W.alloc o) st:=h.later (Jc (Nt) o)
theorem X2.drew {B:Nat} {ts:List Tk} {A:Option Addr} {cap:Nat} {W:World} {st:St} (h:X2 B ts A cap W st):X2 B ts A cap W.drew st:=h.later (Jh (Nt))
theorem J6.alloc {S:Nat->Prop} {W W':World} (h:J6 S W W') (o:Obj):J6 S W (W'.alloc o):=h.trans' (J6.bel (Jc (Nt) o))
theorem J6.drew {S:Nat->Prop} {W W':World} (h:J6 S W W'):J6 S W W'.drew:=h.trans' (J6.bel (Jh (Nt)))
theorem J6.then {S:Nat->Prop} {W W1 W2:World} (h:J6 S W W1) (hb:Below W1.heap.size W1 W2):J6 S W W2:=h.trans' (J6.bel hb)
theorem Ke7 {m:Nat} {w W:World} {b:Nat} (v0 v1 v2 v3:Value) (h:Below m w W) (hb:m<=b):Below m w ((((W.setCell ⟨b,0,none⟩ v0).setCell ⟨b,1,none⟩ v1).setCell ⟨b,2,none⟩ v2).setCell ⟨b,3,none⟩ v3):=(Below.setCell (Below.setCell (Below.setCell (Below.setCell h hb _) hb _) hb _) hb _)
theorem Kej {B:Nat} {ts:List Tk} {A:Option Addr} {cap:Nat} {st:St} {W:World} (h:X2 B ts A cap W st) :
  Calls Tryz.prog 85 #[.pointer (some ⟨B,0,none⟩)] W fun r w'=>r = .returned (.tuple #[tkV ((Kc7 ts st).getD tkZ),.bool (Kc7 ts st).isSome])/\Below W.heap.size W w':=by
 obtain⟨p,bad⟩:=st;have cm:=h.lt;obtain⟨h0,h1,h2,-,-,-,ht,nn⟩:=h;dsimp only at h1 h2 nn;have ak:=ht.1;have dm:=ht.2.1;unfold maxLen at dm
 cases bad
 ·by_cases hp:p<ts.length
  ·have hx:ts[p]?=some ts[p]:=Ng hp;generalize ts[p]=t at hx;have hv:Kc7 ts ⟨p,false⟩=some t:=by simp [Kc7,hx]
   rw [hv];obtain⟨b,off,rfl,hbB,ij,d0,d1,d2,d3⟩:=ht.get hx;have hd:decide ((ts.length:Int)<=(p:Int))=false:=Ui;have hpi:(p:Int)<(ts.length:Int):=Ua;clear ht hx hv
   go_enter Tryz.func85,Tryz.ntmps85
   go_wp2_with fail
   go_quiet (fail)
   go_wp2_with fail
   go_region_law (fail)
   all_goals
    go_wp2_with fail
    refine Nv (v:= .tuple #[tkV t,.bool true]) (by simp [results,Tryz.results85,go_sem,tkV, *]) rfl ⟨rfl,?_⟩;refine Ke7 _ _ _ _ ?_ (Ns _);exact J8 (Jc (Nt) _) _
  ·have hv:Kc7 ts ⟨p,false⟩=none:=by simp [Kc7];omega
   rw [hv];have hd:decide ((ts.length:Int)<=(p:Int))=true:=Ui;exact Bn
 ·have hv:Kc7 ts ⟨p,true⟩=none:=by simp [Kc7]
  rw [hv];exact Bn
theorem Kig {B:Nat} {ts:List Tk} {A:Option Addr} {cap:Nat} {st:St} {W:World} (h:X2 B ts A cap W st) (s:ByteArray) :
  Calls Tryz.prog 41 #[.pointer (some ⟨B,0,none⟩),.string s] W fun r w'=>r = .returned (.bool (Kc5 ts st s))/\Below W.heap.size W w':=by
 have qU:=Kej h
 have hv:Kc5 ts st s=((Kc7 ts st).isSome && (((((Kc7 ts st).getD tkZ).kind == 3) || (((Kc7 ts st).getD tkZ).kind == 4)) && ((Kc7 ts st).getD tkZ).text.toList == s.toList)):=by
  unfold Kc5
  cases Kc7 ts st <;> simp
 generalize Kc5 ts st s=V at hv ⊢;generalize (Kc7 ts st).getD tkZ=t at qU hv;generalize (Kc7 ts st).isSome=o at qU hv;obtain⟨k,tx,n,p⟩:=t;unfold tkV at qU;dsimp only at hv qU;clear h
 cases o
 ·exact Uac
 ·cases h3:(k == 3)
  ·cases h4:(k == 4)
   ·rw [h3,h4] at hv;exact Uac
   ·cases h5:(tx.toList == s.toList) <;> rw [h3,h4,h5] at hv <;>
    ·exact Uac
  ·cases h5:(tx.toList == s.toList) <;> rw [h3,h5] at hv <;>
   ·exact Uac
abbrev Keu (B:Nat) (ts:List Tk) (A:Option Addr) (cap:Nat) (W:World) (v:Value) (st:St) (r:Ending) (W':World):Prop:=r = .returned v/\X2 B ts A cap W' st/\J6 (fun b=>b=B) W W'
theorem Knj {B:Nat} {W W1:World} (h:Below W.heap.size W W1) (o:Nat) (u:Value):J6 (fun b=>b=B) W (W1.setCell ⟨B,o,none⟩ u):=(J6.bel (S:=fun b=>b=B) h).setCell (b:=B) rfl o u
theorem Kfh {B:Nat} {ts:List Tk} {A:Option Addr} {cap:Nat} {st:St} {W:World} (h:X2 B ts A cap W st) (s:ByteArray) (ai:ts.length<=100000) :
  Calls Tryz.prog 18 #[.pointer (some ⟨B,0,none⟩),.string s] W (Keu B ts A cap W (.bool (Kc5 ts st s)) (Kc6 ts st s)):=by
 have hse:=Kig h s;have cm:=h.lt;have ak:=h.c1;have db:=h.f1;have nn:=h.le;have HP:=Nf h;have hv:Kc6 ts st s=if Kc5 ts st s=true then⟨st.pos+1,st.bad⟩ else st:=rfl;have am:=fun e:Kc5 ts st s=true=>(Ket e).1;generalize Kc6 ts st s=V at hv ⊢;generalize Kc5 ts st s=o at hse hv am ⊢;clear h
 cases o
 ·rw [if_neg Uh] at hv;have HV:=Nf hv;clear hv am
  go_enter Tryz.func18,Tryz.ntmps18
  go_wp2_with (go_at_call 41;go_loud (refine hse.mono ?_;rintro r w1 ⟨rfl,ac⟩))
  go_ret;rw [HV.out];exact⟨rfl,HP.out.later ac,J6.bel ac⟩
 ·rw [if_pos rfl] at hv;have hp:=am rfl;have HV:=Nf hv;clear hv am
  go_enter Tryz.func18,Tryz.ntmps18
  go_wp2_with (go_at_call 41;go_loud (refine hse.mono ?_;rintro r w1 ⟨rfl,ac⟩;have dm:=Ja ac ak;have gO:=(Jf ac B 1 cm).trans db;have cF:=Nr cm ac.size))
  go_ret;rw [HV.out];exact⟨rfl,(HP.out.later ac).pos _ hp,Knj ac _ _⟩
theorem Koc {B:Nat} {ts:List Tk} {A:Option Addr} {cap:Nat} {st:St} {W:World} (h:X2 B ts A cap W st) (s:ByteArray) (ai:ts.length<=100000) :
  Calls Tryz.prog 37 #[.pointer (some ⟨B,0,none⟩),.string s] W (Keu B ts A cap W (.tuple #[]) (Kda ts st s)):=by
 have vh:=Kfh h s ai
 have hv:Kda ts st s=if Kc5 ts st s=true then Kc6 ts st s else⟨(Kc6 ts st s).pos,true⟩:=by
  unfold Kda Kc6
  cases Kc5 ts st s <;> rfl
 generalize Kda ts st s=V at hv ⊢;generalize Kc6 ts st s=st1 at vh hv;generalize Kc5 ts st s=o at vh hv;have cm:=h.lt;clear h
 cases o
 ·rw [if_neg Uh] at hv;have HV:=Nf hv;clear hv
  go_enter Tryz.func37,Tryz.ntmps37
  go_wp2_with (go_at_call 18;go_loud (refine vh.mono ?_;rintro r w1 ⟨rfl,ii,cD⟩;have dm:=ii.c2;have gO:=ii.f2;have cF:=ii.lt))
  refine Nv (v:= .tuple #[]) (by simp [results,Tryz.results37,go_sem, *]) rfl ?_;rw [HV.out];exact⟨rfl,ii.fall _,cD.setCell rfl _ _⟩
 ·rw [if_pos rfl] at hv;have HV:=Nf hv;clear hv
  go_enter Tryz.func37,Tryz.ntmps37
  go_wp2_with (go_at_call 18;go_loud (refine vh.mono ?_;rintro r w1 ⟨rfl,ii,cD⟩))
  refine Nv (v:= .tuple #[]) (by simp [results,Tryz.results37,go_sem, *]) rfl ?_;rw [HV.out];exact⟨rfl,ii,cD⟩
theorem K1 {B:Nat} {W W':World} (h:J6 (fun b=>b=B) W W'):∀b o,b≠B->b<W.heap.size->W'.cell? ⟨b,o,none⟩=W.cell? ⟨b,o,none⟩:=fun b o hb am=>World.cell?_of_block (h.block b am hb)
theorem kfz {B:Nat} {W W':World} (h:J6 (fun b=>b=B) W W'):∀b o,b≠B->b<W.heap.size->W'.frozen? ⟨b,o,none⟩=W.frozen? ⟨b,o,none⟩:=fun b o hb am=>World.frozen?_of_block (h.block b am hb)
abbrev Kel (W:World) (c:Nat) (v0 v1 v2 v3:Value):World:=(((W.setCell ⟨c,0,none⟩ v0).setCell ⟨c,1,none⟩ v1).setCell ⟨c,2,none⟩ v2).setCell ⟨c,3,none⟩ v3
theorem Keq (W:World) (c:Nat) (v0 v1 v2 v3:Value):(Kel W c v0 v1 v2 v3).heap.size=W.heap.size:=Uh
theorem Kfr (W:World) (c:Nat) (v0 v1 v2 v3:Value) {k:Nat} (h:k≠c):(Kel W c v0 v1 v2 v3).heap[k]?=W.heap[k]?:=by
 unfold Kel;rw [heap_setCell_other _ _ _ _ h,heap_setCell_other _ _ _ _ h,heap_setCell_other _ _ _ _ h,heap_setCell_other _ _ _ _ h]
theorem Kgf {base b2 c:Nat} {w:World} {P:World->Prop} (h:Off b2 none w P) (hb:base<=b2) (hc:c<b2) (v0 v1 v2 v3:Value):Off base none (Kel w c v0 v1 v2 v3) P:=
 h.fresh hb (fun k h1 _=>Kfr _ _ _ _ _ _ Ua) (by rw [Keq];exact Ns _) Uh
theorem Kfo {base:Nat} {w:World} {P:World->Prop} (h:Off base none w P) (o:Obj):Off base none (w.alloc o) P:=h.later (Jc (Nt) o)
theorem Kgr {base b2 c:Nat} {w:World} {P:World->Prop} (h:Off b2 none w P) (hb:base<=b2) (hc:c<b2) (v0 v1 v2 v3:Value) (o:Obj):Off base none ((Kel w c v0 v1 v2 v3).alloc o) P:=Kfo (Kgf h hb hc _ _ _ _) o
theorem Kgv (w:World) (c:Nat) (v0 v1 v2 v3:Value) (l:Array Value) (t:TypeId) (j:Nat):((Kel w c v0 v1 v2 v3).alloc (.cells l t)).cell? ⟨w.heap.size,j,none⟩=l[j]?:=by
 have:=Kw (Kel w c v0 v1 v2 v3) l t j
 rwa [Keq] at this
theorem Kfq (w:World) (c:Nat) (v0 v1 v2 v3:Value) (o:Obj):((Kel w c v0 v1 v2 v3).alloc o).heap.size=w.heap.size+1:=Uh
theorem Kk1 {base b1 c:Nat} {w:World} {k n:Int} {nm:ByteArray} {x:Ex} {a:Option Addr} {ca:Nat} {t:TypeId} {v0 v1 v2 v3:Value} (h:Off b1 none w (fun V=>Jt V x a ca)) (hb:base<=b1) (hc:c<b1) (hw:base<=w.heap.size) :
  Off base none ((Kel w c v0 v1 v2 v3).alloc (.cells #[.int .i64 x.kind,.int .i32 x.n,.string x.name,.slice a x.sub.length ca] t)) (fun V=>Jt V (.mk k n nm [x]) (some ⟨w.heap.size,0,none⟩) 1):=
 Klc hw Mr (fun j u hj=>Fy) (Kgr h hb hc _ _ _ _ _)
theorem Knp {base b1 b2 c:Nat} {w:World} {k n:Int} {nm:ByteArray} {x y:Ex} {a b:Option Addr} {ca cb:Nat} {t:TypeId} {v0 v1 v2 v3:Value} (h:Off b1 none w (fun V=>Jt V x a ca)) (h':Off b2 none w (fun V=>Jt V y b cb)) (hb:base<=b1) (hc:c<b1) (aq:base<=b2) (dm:c<b2) (hw:base<=w.heap.size) :
  Off base none ((Kel w c v0 v1 v2 v3).alloc (.cells #[.int .i64 x.kind,.int .i32 x.n,.string x.name,.slice a x.sub.length ca,.int .i64 y.kind,.int .i32 y.n,.string y.name,.slice b y.sub.length cb] t)) (fun V=>Jt V (.mk k n nm [x,y]) (some ⟨w.heap.size,0,none⟩) 2):=
 Kk6 hw Mr (fun j u hj=>Fy) (Kgr h hb hc _ _ _ _ _) (Kgr h' aq dm _ _ _ _ _)
theorem Kn9 {base b1 b2 b3 c:Nat} {w:World} {k n:Int} {nm:ByteArray} {x y z:Ex} {a b d:Option Addr} {ca cb cd:Nat} {t:TypeId} {v0 v1 v2 v3:Value} (h:Off b1 none w (fun V=>Jt V x a ca)) (h':Off b2 none w (fun V=>Jt V y b cb)) (h3:Off b3 none w (fun V=>Jt V z d cd)) (hb:base<=b1) (hc:c<b1) (aq:base<=b2) (dm:c<b2) (aM:base<=b3) (kE:c<b3) (hw:base<=w.heap.size) :
  Off base none ((Kel w c v0 v1 v2 v3).alloc (.cells #[.int .i64 x.kind,.int .i32 x.n,.string x.name,.slice a x.sub.length ca,.int .i64 y.kind,.int .i32 y.n,.string y.name,.slice b y.sub.length cb,.int .i64 z.kind,.int .i32 z.n,.string z.name,.slice d z.sub.length cd] t)) (fun V=>Jt V (.mk k n nm [x,y,z]) (some ⟨w.heap.size,0,none⟩) 3):=
 Klv hw Mr (fun j u hj=>Fy) (Kgr h hb hc _ _ _ _ _) (Kgr h' aq dm _ _ _ _ _) (Kgr h3 aM kE _ _ _ _ _)
theorem Kd0 {B:Nat} {ts:List Tk} {A:Option Addr} {cap:Nat} {W:World} {st:St} (h:X2 B ts A cap W st) {c:Nat} (hc:B<c) (v0 v1 v2 v3:Value):X2 B ts A cap (Kel W c v0 v1 v2 v3) st:=h.beyond4 hc _ _ _ _
theorem Kga {B:Nat} {ts:List Tk} {A:Option Addr} {cap:Nat} {W:World} {st:St} (h:X2 B ts A cap W st) {c:Nat} (hc:B<c) (v0 v1 v2 v3:Value) (o:Obj):X2 B ts A cap ((Kel W c v0 v1 v2 v3).alloc o) st:=(h.beyond4 hc _ _ _ _).alloc _
theorem Kdp {S:Nat->Prop} {W W':World} (h:J6 S W W') {c:Nat} (hc:W.heap.size<=c) (v0 v1 v2 v3:Value):J6 S W (Kel W' c v0 v1 v2 v3):=h.fresh4 hc _ _ _ _
theorem Kfp {S:Nat->Prop} {W W':World} (h:J6 S W W') {c:Nat} (hc:W.heap.size<=c) (v0 v1 v2 v3:Value) (o:Obj):J6 S W ((Kel W' c v0 v1 v2 v3).alloc o):=(h.fresh4 hc _ _ _ _).alloc o
theorem K2 {S:Nat->Prop} {W W':World} {o:Obj} (h:J6 S (W.alloc o) W'):J6 S W W':=(J6.bel (Jc (Nt) o)).trans' h
theorem Kj3 {B base:Nat} {W:World} {P:World->Prop} (h:Off base none W P) (hB:B<base):Kfu B W P:=fun W' hk=>Jp6 h hk fun k h1 _=>by show ¬k=B;omega
def Kgx (B:Nat) (ts:List Tk) (A:Option Addr) (cap:Nat) (f:Nat):Prop:=∀(st:St) (W:World),X2 B ts A cap W st->
 (12 * (ts.length-st.pos)+10<f->Calls Tryz.prog 43 #[.pointer (some ⟨B,0,none⟩)] W (Kdq B ts A cap W (K3 ts f .expr st)))/\
 (∀k:Nat,k<=6->12 * (ts.length-st.pos)+(9-k)<f->Calls Tryz.prog 86 #[.pointer (some ⟨B,0,none⟩),.int .i64 k] W (Kdq B ts A cap W (K3 ts f (.level k) st)))/\
 (12 * (ts.length-st.pos)+2<f->Calls Tryz.prog 107 #[.pointer (some ⟨B,0,none⟩)] W (Kdq B ts A cap W (K3 ts f .unary st)))/\
 (12 * (ts.length-st.pos)+1<f->Calls Tryz.prog 124 #[.pointer (some ⟨B,0,none⟩)] W (Kdq B ts A cap W (K3 ts f .factor st)))/\
 (12 * (ts.length-st.pos)<f->Calls Tryz.prog 137 #[.pointer (some ⟨B,0,none⟩)] W (Kdq B ts A cap W (K3 ts f .atom st)))
theorem Kno (w:World) (l:List ByteArray) (t:TypeId) (c:Array Value) (hc:c=(l.map Value.string).toArray) (hl:l.length<=maxLen):Off w.heap.size none (w.alloc (.cells c t)) (fun V=>Qf V l (some ⟨w.heap.size,0,none⟩) l.length):=fun w' jC=>
 ⟨Ns _,hl,fun _=>⟨_,_,rfl,fun k s hk=>by
  refine Jr (jC w.heap.size (Ns _) Uh Uh) ?_;rw [Nat.zero_add,Kw,hc];simp [hk]⟩⟩
theorem Ki9 (k:Nat) (hk:k<6) (W:World):Calls Tryz.prog 109 #[.int .i64 k] W fun r w'=>(∃Al,r = .returned (.slice Al (Kdx k).length (Kdx k).length)/\Off W.heap.size none w' (fun V=>Qf V (Kdx k) Al (Kdx k).length))/\Below W.heap.size W w':=by
 obtain rfl|rfl|rfl|rfl|rfl|rfl:k=0\/k=1\/k=2\/k=3\/k=4\/k=5:=Ua
 all_goals
  go_enter Tryz.func109,Tryz.ntmps109
  go_wp2_with fail
  go_ret;refine⟨⟨_,rfl,Kno W _ _ _ rfl (by unfold maxLen;simp [Kdx])⟩,Jc (Nt) _⟩
theorem Kmv (s:ByteArray) (W:World):Calls Tryz.prog 110 #[.string s] W fun r w'=>r = .returned (.int .i32 (opF s))/\W=w':=by
 go_enter Tryz.func110,Tryz.ntmps110
 go_wp2_with fail
 go_loopw [3] (fun i wr=>∃(k:Nat) (f:Nat),k+f=17/\1<=k/\i = .int .i32 k/\Kei s f k=opF s/\wr=W) (fun i _=>17-(intOf i).toNat)
 case atStart=>exact⟨1,16,rfl,Ua,rfl,rfl,rfl⟩
 case round=>
  obtain⟨k,f,hkf,cD,rfl,aa,rfl⟩:=hrel
  by_cases am:k<17
  ·obtain⟨f,rfl⟩:∃g,f=g+1:=⟨f-1,Ua⟩;rw [Kei] at aa;have hki:(k:Int)<17:=Ua
   cases hs:(Ja6 (k:Int)).toList == s.toList
   ·rw [hs,if_neg Uh] at aa;have HR:=Nf aa;clear aa
    go_wp2_with (go_at_call 53;refine(Jv4 _ _).mono ?_;rintro r w1 ⟨rfl,rfl⟩)
    go_roundw
    case rel=>exact⟨k+1,f,Ua,Ua,Uw,by have:=HR.out;simpa using this,Fq⟩
    case measure=>simp [intOf];omega
   ·rw [hs,if_pos rfl] at aa;have HR:=Nf aa;clear aa
    go_wp2_with (go_at_call 53;refine(Jv4 _ _).mono ?_;rintro r w1 ⟨rfl,rfl⟩)
    go_ret;exact⟨Mp,rfl⟩
  ·obtain rfl:k=17:=Ua;obtain rfl:f=0:=Ua;rw [Kei] at aa;have HR:=Nf aa;clear aa
   go_wp2_with fail
   go_ret;exact⟨Mp,rfl⟩
theorem Klo {B:Nat} {ts:List Tk} {A:Option Addr} {cap f:Nat} {st:St} {W:World} (ih:Kgx B ts A cap f) (h:X2 B ts A cap W st) (ai:ts.length<=100000) (hf:12 * (ts.length-st.pos)+2<f+1) :
  Calls Tryz.prog 107 #[.pointer (some ⟨B,0,none⟩)] W (Kdq B ts A cap W (K3 ts (f+1) .unary st)):=by
 have cm:=h.lt;have nn:=h.le;have aS:W.heap.size≠B:=Ua;have vh:=fun o s=>Kfh (h.alloc o) s ai;rw [K3];have hu:∀st',st.pos<st'.pos->st'.pos<=ts.length->∀W',X2 B ts A cap W' st'->Calls Tryz.prog 107 #[.pointer (some ⟨B,0,none⟩)] W' (Kdq B ts A cap W' (K3 ts f .unary st')):=fun st' h1 h2 W' hp=>(ih st' W' hp).2.2.1 Ua;have eB:∀W',X2 B ts A cap W' st->Calls Tryz.prog 124 #[.pointer (some ⟨B,0,none⟩)] W' (Kdq B ts A cap W' (K3 ts f .factor st)):=fun W' hp=>(ih st W' hp).2.2.2.1 Ua;clear ih
 cases h1:Kc5 ts st ⟨#[45]⟩
 ·rw [if_neg Uh]
  cases h2:Kc5 ts st ⟨#[110,111,116]⟩
  ·rw [if_neg Uh];have gJ:=vh (.cells #[.int .i64 0,.int .i32 0,.string ⟨#[]⟩,.slice none 0 0] 73) ⟨#[45]⟩;have nQ:=fun W' (h':X2 B ts A cap W' st)=>Kfh h' ⟨#[110,111,116]⟩ ai;have e1:Kc6 ts st ⟨#[45]⟩=st:=Ucy;have e2:Kc6 ts st ⟨#[110,111,116]⟩=st:=by unfold Kc6;rw [h2,if_neg Uh]
   rw [h1,e1] at gJ;rw [h2,e2] at nQ;generalize K3 ts f .factor st=R at eB ⊢;unfold Kdq Ke9 exV at eB;clear vh hu h1 h2 e1 e2
   go_enter Tryz.func107,Tryz.ntmps107
   go_wp2_with (first
    | (go_at_call_of 18 (Value.string ⟨#[45]⟩);go_loud (refine gJ.mono ?_;rintro r w1 ⟨rfl,ii,cD⟩))
    | (go_at_call_of 18 (Value.string ⟨#[110,111,116]⟩);go_loud (refine(nQ _ ii).mono ?_;rintro r w2 ⟨rfl,gL,dz⟩))
    | (go_at_call 124;go_loud (refine(eB _ gL).mono ?_;rintro r w3 ⟨⟨_,rfl,A3,c3,rfl,ho3⟩,ip,dU⟩;have hk:=cD.trans' (dz.trans' dU);have aW:=K1 hk;have bS:=kfz hk;have hz:=hk.size;have hz12:=(cD.trans' dz).size;(try simp at hz hz12);have dG:=lt0 W w3)))
   refine Nv (v:=exV R.1 A3 c3) (by simp [results,Tryz.results107,go_sem,exV, *]) rfl ?_;exact⟨⟨_,rfl,A3,c3,rfl,Kgf ho3 Ua Ua _ _ _ _⟩,Kd0 ip cm _ _ _ _,Kdp (K2 hk) (Ns _) _ _ _ _⟩
  ·rw [if_pos rfl];have am:=Ket h2;have gJ:=vh (.cells #[.int .i64 0,.int .i32 0,.string ⟨#[]⟩,.slice none 0 0] 73) ⟨#[45]⟩;have nQ:=fun W' (h':X2 B ts A cap W' st)=>Kfh h' ⟨#[110,111,116]⟩ ai;have e1:Kc6 ts st ⟨#[45]⟩=st:=Ucy;have e2:Kc6 ts st ⟨#[110,111,116]⟩=⟨st.pos+1,st.bad⟩:=by unfold Kc6;rw [h2,if_pos rfl]
   rw [h1,e1] at gJ;rw [h2,e2] at nQ;rw [e2];have hu1:=hu ⟨st.pos+1,st.bad⟩ Uh Ui;generalize K3 ts f .unary ⟨st.pos+1,st.bad⟩=R at hu1 ⊢;unfold Kdq Ke9 exV at hu1;clear vh hu eB h1 h2 e1 e2
   go_enter Tryz.func107,Tryz.ntmps107
   go_wp2_with (first
    | (go_at_call_of 18 (Value.string ⟨#[45]⟩);go_loud (refine gJ.mono ?_;rintro r w1 ⟨rfl,ii,cD⟩))
    | (go_at_call_of 18 (Value.string ⟨#[110,111,116]⟩);go_loud (refine(nQ _ ii).mono ?_;rintro r w2 ⟨rfl,gL,dz⟩))
    | (go_at_call 107;go_loud (refine(hu1 _ gL).mono ?_;rintro r w3 ⟨⟨_,rfl,A3,c3,rfl,ho3⟩,ip,dU⟩;have hk:=cD.trans' (dz.trans' dU);have aW:=K1 hk;have bS:=kfz hk;have hz:=hk.size;have hz12:=(cD.trans' dz).size;(try simp at hz hz12);have dG:=lt0 W w3)))
   refine Nv (v:=exV (.mk 4 2 ⟨#[]⟩ [R.1]) (some ⟨w3.heap.size,0,none⟩) 1) F2 rfl ?_;exact Ubl
 ·rw [if_pos rfl];have am:=Ket h1;have gJ:=vh (.cells #[.int .i64 0,.int .i32 0,.string ⟨#[]⟩,.slice none 0 0] 73) ⟨#[45]⟩;have e1:Kc6 ts st ⟨#[45]⟩=⟨st.pos+1,st.bad⟩:=by unfold Kc6;rw [h1,if_pos rfl]
  rw [h1,e1] at gJ;rw [e1];have hu1:=hu ⟨st.pos+1,st.bad⟩ Uh Ui;generalize K3 ts f .unary ⟨st.pos+1,st.bad⟩=R at hu1 ⊢;unfold Kdq Ke9 exV at hu1;clear vh hu eB h1 e1
  go_enter Tryz.func107,Tryz.ntmps107
  go_wp2_with (first
   | (go_at_call_of 18 (Value.string ⟨#[45]⟩);go_loud (refine gJ.mono ?_;rintro r w1 ⟨rfl,ii,cD⟩))
   | (go_at_call 107;go_loud (refine(hu1 _ ii).mono ?_;rintro r w3 ⟨⟨_,rfl,A3,c3,rfl,ho3⟩,ip,dU⟩;have hk:=cD.trans' dU;have aW:=K1 hk;have bS:=kfz hk;have hz:=hk.size;have hz12:=(cD).size;(try simp at hz hz12);have dG:=lt0 W w3)))
  refine Nv (v:=exV (.mk 4 1 ⟨#[]⟩ [R.1]) (some ⟨w3.heap.size,0,none⟩) 1) F2 rfl ?_;exact Ubl
theorem Kjj {B:Nat} {ts:List Tk} {A:Option Addr} {cap:Nat} {st:St} {W:World} (h:X2 B ts A cap W st) (k:Int) (ai:ts.length<=100000) :
  Calls Tryz.prog 83 #[.pointer (some ⟨B,0,none⟩),.int .i64 k] W (Keu B ts A cap W (tkV (Kdy ts st k).1) (Kdy ts st k).2):=by
 have cm:=h.lt;have nn:=h.le
 obtain⟨o,t,hn,ho⟩:∃(o:Bool) (t:Tk),(∀W',Below W.heap.size W W'->Calls Tryz.prog 85 #[.pointer (some ⟨B,0,none⟩)] W' fun r w'=>r = .returned (.tuple #[tkV t,.bool o])/\Below W'.heap.size W' w')/\
   Kdy ts st k=if o && (t.kind == k) then(t,⟨st.pos+1,st.bad⟩) else(tkZ,⟨st.pos,true⟩):=⟨(Kc7 ts st).isSome,(Kc7 ts st).getD tkZ,fun W' hb=>Kej (h.later hb),by unfold Kdy;cases Kc7 ts st <;> simp⟩
 have am:o=true->t.kind=k->st.pos+1<=ts.length:=fun e1 e2=>by
  have hg:=(Khc ts st k).2 nn;rw [ho,e1,e2] at hg;simpa using hg
 have HP:=Nf h;generalize Kdy ts st k=V at ho ⊢;obtain⟨tk,tx,tn,tp⟩:=t;unfold tkV at hn;dsimp only at hn ho am
 cases o
 ·rw [Bool.false_and,if_neg Ug] at ho;have HV:=Nf ho;clear ho am h;exact Bb
 ·cases hk:(tk == k)
  ·have dz:(tk != k)=true:=Lq;rw [hk,Bool.and_false,if_neg Ug] at ho;have HV:=Nf ho;clear ho am h hk;exact Bb
  ·have dz:(tk != k)=false:=Lq;rw [hk,Bool.true_and,if_pos rfl] at ho;have hp:=am rfl Lq;have HV:=Nf ho;clear ho am h hk
   go_enter Tryz.func83,Tryz.ntmps83
   go_wp2_with (go_at_call 85;go_loud (refine(hn _ Jb).mono ?_;rintro r w1 ⟨rfl,ac⟩;have aC:=Nd W w1 (by exact Jb);have wu:=HP.out.later aC;have ak:=wu.c1;have db:=wu.f1;have cF:=wu.lt;have aW:=Jg ac;have bS:=Jf ac;have af:=ac.size;(try simp at af);have dG:=lt0 W w1))
   refine Nv (v:=tkV ⟨tk,tx,tn,tp⟩) F4 rfl ?_;rw [HV.out];exact⟨rfl,((wu.pos _ hp).beyond4 cm _ _ _ _).alloc _,(((J6.bel (S:=fun b=>b=B) aC).setCell (b:=B) rfl _ _).fresh4 (Ns _) _ _ _ _).alloc _⟩
theorem Knd (k:Int) (x:ByteArray) (n p:Int) (w:World):(Instr.field 103 (.agg #[.int .i64 k,.string x,.int .i32 n,.int .i64 p]) 1).run Tryz.prog w = .ok (.string x) w:=Ue
theorem Kn8 (k:Int) (x:ByteArray) (n p:Int) (w:World):(Instr.field 103 (.agg #[.int .i64 k,.string x,.int .i32 n,.int .i64 p]) 2).run Tryz.prog w = .ok (.int .i32 n) w:=Ue
theorem Kfd {B:Nat} {ts:List Tk} {A:Option Addr} {cap:Nat} {st:St} {W:World} (h:X2 B ts A cap W st) (ai:ts.length<=100000) :
  Calls Tryz.prog 38 #[.pointer (some ⟨B,0,none⟩)] W (Keu B ts A cap W (.string (Kdn ts st).1) (Kdn ts st).2):=by
 have wR:=Kjj h 1 ai;have hv:Kdn ts st=((Kdy ts st 1).1.text,(Kdy ts st 1).2):=rfl;generalize Kdn ts st=V at hv ⊢;generalize Kdy ts st 1=t at wR hv;have HV:=Nf hv;clear hv h;obtain⟨⟨tk,tx,tn,tp⟩,st1⟩:=t;unfold tkV at wR;dsimp only at wR;have jS:=Knd tk tx tn tp
 go_enter Tryz.func38,Tryz.ntmps38
 go_wp2_with (go_at_call 83;go_loud (refine wR.mono ?_;rintro r w1 ⟨rfl,ii,cD⟩))
 go_ret;rw [HV.out];exact⟨rfl,ii,cD⟩
theorem Kfy {B:Nat} {ts:List Tk} {A:Option Addr} {cap:Nat} {st:St} {W:World} (h:X2 B ts A cap W st) (fin:Int) :
  Calls Tryz.prog 19 #[.pointer (some ⟨B,0,none⟩),.int .i64 fin] W fun r w'=>r = .returned (.int .i64 (Ke6 ts st.pos fin))/\Below W.heap.size W w':=by
 obtain⟨p,bad⟩:=st;have cm:=h.lt;obtain⟨h0,h1,-,-,-,-,ht,nn⟩:=h;dsimp only at h1 nn ⊢;have ak:=ht.1;have dm:=ht.2.1;unfold maxLen at dm
 by_cases hp:p<ts.length
 ·have hx:ts[p]?=some ts[p]:=Ng hp;generalize ts[p]=t at hx;have hv:Ke6 ts p fin=t.pos:=by simp [Ke6,hx]
  rw [hv];obtain⟨b,off,rfl,hbB,ij,d0,d1,d2,d3⟩:=ht.get hx;have hd:decide ((p:Int)<(ts.length:Int))=true:=Ui;have hpi:(p:Int)<(ts.length:Int):=Ua;clear ht hx hv
  go_enter Tryz.func19,Tryz.ntmps19
  go_wp2_with fail
  go_quiet (fail)
  go_wp2_with fail
  go_quiet (fail)
  go_wp2_with fail
  go_ret;exact⟨rfl,Jb⟩
 ·have hv:Ke6 ts p fin=fin:=by
   unfold Ke6;rw [List.getElem?_eq_none Ua]
  rw [hv];have hd:decide ((p:Int)<(ts.length:Int))=false:=Ui;clear ht hv
  go_enter Tryz.func19,Tryz.ntmps19
  go_wp2_with fail
  go_quiet (fail)
  go_wp2_with fail
  go_ret;exact⟨rfl,Jb⟩
theorem Kl8 {B:Nat} {ts:List Tk} {A:Option Addr} {cap f:Nat} {st:St} {W:World} (ih:Kgx B ts A cap f) (h:X2 B ts A cap W st) (ai:ts.length<=100000) (hf:12 * (ts.length-st.pos)+10<f+1) :
  Calls Tryz.prog 43 #[.pointer (some ⟨B,0,none⟩)] W (Kdq B ts A cap W (K3 ts (f+1) .expr st)):=by
 have cm:=h.lt;have nn:=h.le;have aS:W.heap.size≠B:=Ua;have hlv:=fun W' (hp:X2 B ts A cap W' st)=>(ih st W' hp).2.1 0 Ua Ua;have hg:=Ke3 ts f (.level 0) st;rw [K3];obtain⟨L,hL⟩:∃L,L=K3 ts f (.level 0) st:=⟨_,rfl⟩;rw [<-hL] at hlv hg ⊢;clear hL;obtain⟨x,st1⟩:=L;have hx:∀st',st1.pos<st'.pos->st'.pos<=ts.length->∀W',X2 B ts A cap W' st'->Calls Tryz.prog 43 #[.pointer (some ⟨B,0,none⟩)] W' (Kdq B ts A cap W' (K3 ts f .expr st')):=fun st' h1 h2 W' hp=>(ih st' W' hp).1 (by have:=hg.1;simp at this;omega);have vh:=fun W' (hp:X2 B ts A cap W' st1)=>Kfh hp ⟨#[45,62]⟩ ai;unfold Kdq Ke9 exV at hlv;have hle1:=hg.2 nn;dsimp only at vh hle1 hlv ⊢;have HP:=Nf h;clear ih h
 cases h1:Kc5 ts st1 ⟨#[45,62]⟩
 ·rw [if_neg Uh];have e1:Kc6 ts st1 ⟨#[45,62]⟩=st1:=Ucy;rw [h1,e1] at vh;clear hx h1 e1 hg
  go_enter Tryz.func43,Tryz.ntmps43
  go_wp2_with (first
   | (go_at_call 86;go_loud (refine(hlv _ (HP.out.alloc _)).mono ?_;rintro r w1 ⟨⟨_,rfl,A1,c1,rfl,ln⟩,ii,cD⟩;have af:=cD.size;(try simp at af);have dG:=lt0 W w1;have er:w1.heap.size≠B:=Ua))
   | (go_at_call 18;go_loud (refine(vh _ (ii.alloc _)).mono ?_;rintro r w2 ⟨rfl,gL,dz⟩;have hk:=cD.trans' (K2 dz);have aW:=K1 hk;have bS:=kfz hk;have dm:=K1 dz;have br:=dz.size;(try simp at br);have cA:=lt0 W w2;have kh:=lt0 w1 w2)))
  refine Nv (v:=exV x A1 c1) (by simp [results,Tryz.results43,go_sem,exV, *]) rfl ?_;exact⟨⟨_,rfl,A1,c1,rfl,Kgf ((Kfo ln _).kept Ui dz) Uh Uh _ _ _ _⟩,Kd0 gL cm _ _ _ _,Kdp (K2 hk) (Ns _) _ _ _ _⟩
 ·rw [if_pos rfl];have am:=Ket h1;have e1:Kc6 ts st1 ⟨#[45,62]⟩=⟨st1.pos+1,st1.bad⟩:=by unfold Kc6;rw [h1,if_pos rfl]
  rw [h1,e1] at vh;rw [e1];have vK:=hx ⟨st1.pos+1,st1.bad⟩ Uh Ui;generalize K3 ts f .expr ⟨st1.pos+1,st1.bad⟩=R at vK ⊢;unfold Kdq Ke9 exV at vK;clear hx h1 e1 hg
  go_enter Tryz.func43,Tryz.ntmps43
  go_wp2_with (first
   | (go_at_call 86;go_loud (refine(hlv _ (HP.out.alloc _)).mono ?_;rintro r w1 ⟨⟨_,rfl,A1,c1,rfl,ln⟩,ii,cD⟩;have af:=cD.size;(try simp at af);have dG:=lt0 W w1;have er:w1.heap.size≠B:=Ua))
   | (go_at_call 18;go_loud (refine(vh _ (ii.alloc _)).mono ?_;rintro r w2 ⟨rfl,gL,dz⟩;have dm:=K1 dz;have br:=dz.size;(try simp at br);have kh:=lt0 w1 w2)))
  have q0:=Na w2 w1.heap.size 0 x.kind Ucw;have q1:=Nb w2 w1.heap.size 1 (.int .i32 x.n) Ucw;have q2:=Nb w2 w1.heap.size 2 (.string x.name) Ucw;have q3:=Nb w2 w1.heap.size 3 (.slice A1 x.sub.length c1) Ucw;refine Kd (fun V:World=>V.cell? ⟨w1.heap.size,0,none⟩=some (.int .i64 x.kind)/\V.cell? ⟨w1.heap.size,1,none⟩=some (.int .i32 x.n)/\V.cell? ⟨w1.heap.size,2,none⟩=some (.string x.name)/\V.cell? ⟨w1.heap.size,3,none⟩=some (.slice A1 x.sub.length c1)) 3 3 Ue Gp ?_;simp only [List.size_toArray,Nl,Nm,Nat.zero_add,Nat.reduceAdd];have ar:w2.drew.cell? ⟨w1.heap.size,0,none⟩=some (.int .i64 x.kind)/\w2.drew.cell? ⟨w1.heap.size,1,none⟩=some (.int .i32 x.n)/\w2.drew.cell? ⟨w1.heap.size,2,none⟩=some (.string x.name)/\w2.drew.cell? ⟨w1.heap.size,3,none⟩=some (.slice A1 x.sub.length c1):=⟨q0,q1,q2,q3⟩;refine Ji 0 ar ?_;refine Ji 1 ar ?_;refine Kb 2 ?_;refine Jj fun K hK=>?_;go_simp;refine(vK _ gL.drew).mono ?_;rintro r w3 ⟨⟨_,rfl,A3,c3,rfl,ho3⟩,ip,dU⟩;dsimp only;have kE:=K1 dU;refine hK _ _ ⟨⟨(kE _ _ er kh).trans q0,(kE _ _ er kh).trans q1,(kE _ _ er kh).trans q2,(kE _ _ er kh).trans q3⟩,?_⟩;clear hK K
  try simp only [Act.put,sa1,sa2,sa3]
  have hk:=cD.trans' ((K2 dz).drew.trans' dU);have aW:=K1 hk;have bS:=kfz hk;have hz:=hk.size;have fe:w2.heap.size<=w3.heap.size:=dU.size;simp at hz;have cA:=lt0 W w3
  have ho1':Off (W.heap.size+1) none w3 (fun V=>Jt V x A1 c1):=by
   have:=((Kfo ln (.cells #[.int .i64 x.kind,.int .i32 x.n,.string x.name,.slice A1 x.sub.length c1] 73)).kept Ui (dz.drew.trans' dU));simpa using this
  clear dm kE q0 q1 q2 q3 ar cD dz dU ln;refine Kh Ue ?_;refine Qx 3 ?_;refine Jj fun K hK=>?_;go_simp;refine hK _ _ ?_;clear hK K
  try simp only [Act.put,sa1,sa2,sa3]
  refine Qx 4 ?_;refine Jj fun K hK=>?_;go_simp;refine hK _ _ ?_;clear hK K
  try simp only [Act.put,sa1,sa2,sa3]
  refine Qx 5 ?_;refine Jj fun K hK=>?_;go_simp;refine hK _ _ ?_;clear hK K
  try simp only [Act.put,sa1,sa2,sa3]
  refine Ki Ue ?_
  go_wp2_with fail
  refine Nv (v:=exV (.mk 7 0 ⟨#[]⟩ [x,R.1]) (some ⟨w3.heap.size,0,none⟩) 2) (by simp [results,Tryz.results43,go_sem,exV,Ex.kind,Ex.n,Ex.name,Ex.sub, *]) rfl ?_;exact⟨⟨_,rfl,_,_,rfl,Knp ho1' ho3 Ua Ua (by show W.heap.size<=w2.heap.size;omega) (by show W.heap.size<w2.heap.size;omega) Ua⟩,Kga ip cm _ _ _ _ _,Kfp (K2 hk) (Ns _) _ _ _ _ _⟩
theorem Kl0 (ts:List Tk) (st:St):∀(l:List ByteArray),(∀s∈l,s≠⟨#[]⟩)->(Kd7 ts st l).1=⟨#[]⟩->(Kd7 ts st l).2=st
 | [],_,_=>rfl
 | s :: l,h,h0=>by
  unfold Kd7 at h0 ⊢
  split
  ·rename_i hs;rw [if_pos hs] at h0;exact absurd h0 (h s Uh)
  ·rename_i hs;rw [if_neg hs] at h0;exact Kl0 ts st l (fun x hx=>h x L8) h0
theorem Kj0 {B:Nat} {ts:List Tk} {A:Option Addr} {cap:Nat} {st:St} {W:World} (h:X2 B ts A cap W st) (ai:ts.length<=100000) (l:List ByteArray) (Al:Option Addr) (cl:Nat) (hl:Kfu B W (fun V=>Qf V l Al cl)) :
  Calls Tryz.prog 108 #[.pointer (some ⟨B,0,none⟩),.slice Al l.length cl] W (Keu B ts A cap W (.string (Kd7 ts st l).1) (Kd7 ts st l).2):=by
 have vh:=fun W' (h':X2 B ts A cap W' st) s=>Kfh h' s ai;have hn:=hl.here.len;unfold maxLen at hn;obtain⟨eR,eu⟩:=hn
 go_enter Tryz.func108,Tryz.ntmps108
 go_wp2_with fail
 go_loopw [9] (fun i wr=>∃(k:Nat),k<=l.length/\i = .int .i64 k/\Kd7 ts st (l.drop k)=Kd7 ts st l/\X2 B ts A cap wr st/\J6 (fun b=>b=B) W wr) (fun i _=>l.length-(intOf i).toNat)
 case atStart=>exact⟨0,Np,rfl,rfl,h,J6.refl _⟩
 case round=>
  obtain⟨k,hk,rfl,aa,wu,sT⟩:=hrel
  by_cases am:k<l.length
  ·obtain⟨x,hx,-,hd⟩:=Kl am;obtain⟨b,off,rfl,aC,c0⟩:=(hl wr sT).get hx;rw [hd,Kd7] at aa;have hse:=vh wr wu x;unfold Kc6 at hse;have hki:(k:Int)<(l.length:Int):=Ua
   cases hs:Kc5 ts st x
   ·rw [hs,if_neg Uh] at aa hse;have HR:=Nf aa;clear aa hd hx hs
    go_wp2_with (go_at_call 18;go_loud (refine hse.mono ?_;rintro r w1 ⟨rfl,ii,cD⟩))
    go_roundw
    case rel=>exact⟨k+1,Ua,Uw,HR.out,ii,sT.trans' cD⟩
    case measure=>simp [intOf];omega
   ·rw [hs,if_pos rfl] at aa hse;have HR:=Nf aa;clear aa hd hx hs
    go_wp2_with (go_at_call 18;go_loud (refine hse.mono ?_;rintro r w1 ⟨rfl,ii,cD⟩))
    go_ret;rw [<-HR.out];exact⟨rfl,ii,sT.trans' cD⟩
  ·obtain rfl:k=l.length:=Ua;rw [Nn,Kd7] at aa;have HR:=Nf aa;clear aa
   go_wp2_with fail
   go_ret;rw [<-HR.out];exact⟨rfl,wu,sT⟩
theorem Kdf {B:Nat} {ts:List Tk} {A:Option Addr} {cap:Nat} {st:St} {W:World} {s:ByteArray} (h:X2 B ts A cap W st) (hs:Kc5 ts st s=false) (ai:ts.length<=100000):Calls Tryz.prog 18 #[.pointer (some ⟨B,0,none⟩),.string s] W (Keu B ts A cap W (.bool false) st):=by
 have:=Kfh h s ai;unfold Kc6 at this
 rwa [hs,if_neg Uh] at this
theorem Kdr {B:Nat} {ts:List Tk} {A:Option Addr} {cap:Nat} {st:St} {W:World} {s:ByteArray} (h:X2 B ts A cap W st) (hs:Kc5 ts st s=true) (ai:ts.length<=100000):Calls Tryz.prog 18 #[.pointer (some ⟨B,0,none⟩),.string s] W (Keu B ts A cap W (.bool true) ⟨st.pos+1,st.bad⟩):=by
 have:=Kfh h s ai;unfold Kc6 at this
 rwa [hs,if_pos rfl] at this
theorem Kdu {ts:List Tk} {st:St} {s:ByteArray} (hs:Kc5 ts st s=true):Kc6 ts st s=⟨st.pos+1,st.bad⟩:=by unfold Kc6;rw [hs,if_pos rfl]
theorem Km1 {B:Nat} {ts:List Tk} {A:Option Addr} {cap:Nat} {st:St} {W:World} (h:X2 B ts A cap W st) (ai:ts.length<=100000) (h0:((Kc7 ts st).getD tkZ).kind=2) :
  Calls Tryz.prog 137 #[.pointer (some ⟨B,0,none⟩)] W (Kdq B ts A cap W (.mk 1 (Kdy ts st 2).1.n ⟨#[]⟩ [],(Kdy ts st 2).2)):=by
 have cm:=h.lt;have aS:W.heap.size≠B:=Ua;have qU:=fun W' hb=>Kej (W:=W') (h.later hb);have aP:=fun W' (h':X2 B ts A cap W' st)=>Kjj h' 2 ai;generalize (Kc7 ts st).getD tkZ=t at qU h0;generalize (Kc7 ts st).isSome=o at qU;obtain⟨tk,tx,tn,tp⟩:=t;dsimp only at h0;subst h0;generalize Kdy ts st 2=R at aP ⊢;obtain⟨⟨rk,rx,rn,rp⟩,st2⟩:=R;unfold tkV at qU aP;dsimp only at qU aP ⊢;have jS:=Kn8 rk rx rn rp;have HP:=Nf h;clear h;generalize sq:(2:Int)=tk at qU;have t2:(tk == 2)=true:=by rw [<-sq];rfl
 clear sq
 go_enter Tryz.func137,Tryz.ntmps137
 go_wp2_with (first
  | (go_at_call 85;go_loud (refine(qU _ Jb).mono ?_;rintro r w1 ⟨rfl,ac⟩;have ii:=(HP.out.later (show Below W.heap.size W w1 from Jb)).alloc (.cells #[.int .i64 tk,.string tx,.int .i32 tn,.int .i64 tp] 103);have wd:=(J6.bel (S:=fun b=>b=B) ac).alloc (.cells #[.int .i64 tk,.string tx,.int .i32 tn,.int .i64 tp] 103)))
  | (go_at_call 83;go_loud (refine(aP _ ii).mono ?_;rintro r w2 ⟨rfl,gL,hk⟩;have zH:=wd.trans' hk;clear hk;have aW:=K1 zH;have bS:=kfz zH;have hz:=zH.size;(try simp at hz);have dG:=lt0 W w2)))
 refine Nv (v:=exV (.mk 1 rn ⟨#[]⟩ []) none 0) U8 rfl ?_;exact⟨⟨_,rfl,none,0,rfl,Kex _ _ fun V=>Ke2 V Uo⟩,Kd0 gL cm _ _ _ _,Kdp (K2 zH) (Ns _) _ _ _ _⟩
theorem Kmh {B:Nat} {ts:List Tk} {A:Option Addr} {cap:Nat} {st:St} {W:World} (h:X2 B ts A cap W st) (ai:ts.length<=100000) (h0:((Kc7 ts st).getD tkZ).kind≠2) (h1:Kc5 ts st ⟨#[116,114,117,101]⟩=true) :
  Calls Tryz.prog 137 #[.pointer (some ⟨B,0,none⟩)] W (Kdq B ts A cap W (.mk 2 1 ⟨#[]⟩ [],Kc6 ts st ⟨#[116,114,117,101]⟩)):=by
 have cm:=h.lt;have nn:=h.le;have aS:W.heap.size≠B:=Ua;have qU:=fun W' hb=>Kej (W:=W') (h.later hb);generalize (Kc7 ts st).getD tkZ=t at qU h0;generalize (Kc7 ts st).isSome=o at qU;obtain⟨tk,tx,tn,tp⟩:=t;unfold tkV at qU;dsimp only at qU h0;have t2:(tk == 2)=false:=Lv;have HP:=Nf h;clear h h0;rw [Kdu h1]
 go_enter Tryz.func137,Tryz.ntmps137
 go_wp2_with (first
  | (go_at_call 85;go_loud (refine(qU _ Jb).mono ?_;rintro r w1 ⟨rfl,ac⟩;have ii:=(HP.out.later (show Below W.heap.size W w1 from Jb)).alloc (.cells #[.int .i64 tk,.string tx,.int .i32 tn,.int .i64 tp] 103);have wd:=(J6.bel (S:=fun b=>b=B) ac).alloc (.cells #[.int .i64 tk,.string tx,.int .i32 tn,.int .i64 tp] 103)))
  | (go_at_call_of 18 (Value.string ⟨#[116,114,117,101]⟩);go_loud (refine(Kdr ii h1 ai).mono ?_;rintro r w2 ⟨rfl,gL,hk⟩;have zH:=wd.trans' hk;clear hk;have aW:=K1 zH;have bS:=kfz zH;have hz:=zH.size;(try simp at hz);have dG:=lt0 W w2)))
 refine Nv (v:=exV (.mk 2 1 ⟨#[]⟩ []) none 0) U8 rfl ?_;exact⟨⟨_,rfl,none,0,rfl,Kex _ _ fun V=>Ke2 V Uo⟩,Kd0 gL cm _ _ _ _,Kdp (K2 zH) (Ns _) _ _ _ _⟩
theorem Klg {B:Nat} {ts:List Tk} {A:Option Addr} {cap:Nat} {st:St} {W:World} (h:X2 B ts A cap W st) (ai:ts.length<=100000) (h0:((Kc7 ts st).getD tkZ).kind≠2) (h1:Kc5 ts st ⟨#[116,114,117,101]⟩=false) (h2:Kc5 ts st ⟨#[102,97,108,115,101]⟩=true) :
  Calls Tryz.prog 137 #[.pointer (some ⟨B,0,none⟩)] W (Kdq B ts A cap W (.mk 2 0 ⟨#[]⟩ [],Kc6 ts st ⟨#[102,97,108,115,101]⟩)):=by
 have cm:=h.lt;have nn:=h.le;have aS:W.heap.size≠B:=Ua;have qU:=fun W' hb=>Kej (W:=W') (h.later hb);generalize (Kc7 ts st).getD tkZ=t at qU h0;generalize (Kc7 ts st).isSome=o at qU;obtain⟨tk,tx,tn,tp⟩:=t;unfold tkV at qU;dsimp only at qU h0;have t2:(tk == 2)=false:=Lv;have HP:=Nf h;clear h h0;rw [Kdu h2]
 go_enter Tryz.func137,Tryz.ntmps137
 go_wp2_with (first
  | (go_at_call 85;go_loud (refine(qU _ Jb).mono ?_;rintro r w1 ⟨rfl,ac⟩;have ii:=(HP.out.later (show Below W.heap.size W w1 from Jb)).alloc (.cells #[.int .i64 tk,.string tx,.int .i32 tn,.int .i64 tp] 103);have wd:=(J6.bel (S:=fun b=>b=B) ac).alloc (.cells #[.int .i64 tk,.string tx,.int .i32 tn,.int .i64 tp] 103)))
  | (go_at_call_of 18 (Value.string ⟨#[116,114,117,101]⟩);go_loud (refine(Kdf ii h1 ai).mono ?_;rintro r w2 ⟨rfl,gL,hk⟩;have zH:=wd.trans' hk;clear hk))
  | (go_at_call_of 18 (Value.string ⟨#[102,97,108,115,101]⟩);go_loud (refine(Kdr gL h2 ai).mono ?_;rintro r w3 ⟨rfl,ip,hk⟩;have hK3:=zH.trans' hk;clear hk;have aW:=K1 hK3;have bS:=kfz hK3;have hz:=hK3.size;(try simp at hz);have dG:=lt0 W w3)))
 refine Nv (v:=exV (.mk 2 0 ⟨#[]⟩ []) none 0) U8 rfl ?_;exact⟨⟨_,rfl,none,0,rfl,Kex _ _ fun V=>Ke2 V Uo⟩,Kd0 ip cm _ _ _ _,Kdp (K2 hK3) (Ns _) _ _ _ _⟩
theorem Kms {B:Nat} {ts:List Tk} {A:Option Addr} {cap:Nat} {st:St} {W:World} (h:X2 B ts A cap W st) (ai:ts.length<=100000) (h0:((Kc7 ts st).getD tkZ).kind≠2) (h1:Kc5 ts st ⟨#[116,114,117,101]⟩=false) (h2:Kc5 ts st ⟨#[102,97,108,115,101]⟩=false)
  (h3:Kc5 ts st ⟨#[40]⟩=false) (h4:Kc5 ts st ⟨#[105,102]⟩=false) (h5:Kc5 ts st ⟨#[109,101,114,103,101]⟩=false) :
  Calls Tryz.prog 137 #[.pointer (some ⟨B,0,none⟩)] W (Kdq B ts A cap W (.mk 3 0 (Kdn ts st).1 [],(Kdn ts st).2)):=by
 have aL:=fun W' (h':X2 B ts A cap W' st)=>Kfd h' ai;generalize Kdn ts st=R at aL ⊢;have cm:=h.lt;have nn:=h.le;have aS:W.heap.size≠B:=Ua;have qU:=fun W' hb=>Kej (W:=W') (h.later hb);generalize (Kc7 ts st).getD tkZ=t at qU h0;generalize (Kc7 ts st).isSome=o at qU;obtain⟨tk,tx,tn,tp⟩:=t;unfold tkV at qU;dsimp only at qU h0;have t2:(tk == 2)=false:=Lv;have HP:=Nf h;clear h h0
 go_enter Tryz.func137,Tryz.ntmps137
 go_wp2_with (first
  | (go_at_call 85;go_loud (refine(qU _ Jb).mono ?_;rintro r w1 ⟨rfl,ac⟩;have ii:=(HP.out.later (show Below W.heap.size W w1 from Jb)).alloc (.cells #[.int .i64 tk,.string tx,.int .i32 tn,.int .i64 tp] 103);have wd:=(J6.bel (S:=fun b=>b=B) ac).alloc (.cells #[.int .i64 tk,.string tx,.int .i32 tn,.int .i64 tp] 103)))
  | (go_at_call_of 18 (Value.string ⟨#[116,114,117,101]⟩);go_loud (refine(Kdf ii h1 ai).mono ?_;rintro r w2 ⟨rfl,gL,hk⟩;have zH:=wd.trans' hk;clear hk))
  | (go_at_call_of 18 (Value.string ⟨#[102,97,108,115,101]⟩);go_loud (refine(Kdf gL h2 ai).mono ?_;rintro r w3 ⟨rfl,ip,hk⟩;have hK3:=zH.trans' hk;clear hk))
  | (go_at_call_of 18 (Value.string ⟨#[40]⟩);go_loud (refine(Kdf ip h3 ai).mono ?_;rintro r w4 ⟨rfl,bT,hk⟩;have hK4:=hK3.trans' hk;clear hk))
  | (go_at_call_of 18 (Value.string ⟨#[105,102]⟩);go_loud (refine(Kdf bT h4 ai).mono ?_;rintro r w5 ⟨rfl,dv,hk⟩;have hK5:=hK4.trans' hk;clear hk))
  | (go_at_call_of 18 (Value.string ⟨#[109,101,114,103,101]⟩);go_loud (refine(Kdf dv h5 ai).mono ?_;rintro r w6 ⟨rfl,tj,hk⟩;have hK6:=hK5.trans' hk;clear hk))
  | (go_at_call 38;go_loud (refine(aL _ tj).mono ?_;rintro r w7 ⟨rfl,hp7,hk⟩;have hK7:=hK6.trans' hk;clear hk;have aW:=K1 hK7;have bS:=kfz hK7;have hz:=hK7.size;(try simp at hz);have dG:=lt0 W w7)))
 refine Nv (v:=exV (.mk 3 0 R.1 []) none 0) U8 rfl ?_;exact⟨⟨_,rfl,none,0,rfl,Kex _ _ fun V=>Ke2 V Uo⟩,Kd0 hp7 cm _ _ _ _,Kdp (K2 hK7) (Ns _) _ _ _ _⟩
def Kis (B:Nat) (ts:List Tk) (A:Option Addr) (cap f:Nat) (fn:FuncId) (nt:NT) (st:St):Prop:=∀st' W',X2 B ts A cap W' st'->st.pos<st'.pos->st'.pos<=ts.length->Calls Tryz.prog fn #[.pointer (some ⟨B,0,none⟩)] W' (Kdq B ts A cap W' (K3 ts f nt st'))
theorem Kn7 {B b1 base:Nat} {W W':World} {P:World->Prop} {o:Obj} (h:Off base none W P) (hB:B<base) (hk:J6 (fun b=>b=B) (W.alloc o) W'):Off base none W' P:=h.kept hB (K2 hk)
theorem kc4 {B b:Nat} {W W':World} {x:Ex} {A:Option Addr} {c:Nat} (hk:J6 (fun b=>b=B) W W') (hb:b≠B) (am:b<W.heap.size) (h:W.cell? ⟨b,0,none⟩=some (.int .i64 x.kind)/\W.cell? ⟨b,1,none⟩=some (.int .i32 x.n)/\W.cell? ⟨b,2,none⟩=some (.string x.name)/\W.cell? ⟨b,3,none⟩=some (.slice A x.sub.length c)):W'.cell? ⟨b,0,none⟩=some (.int .i64 x.kind)/\W'.cell? ⟨b,1,none⟩=some (.int .i32 x.n)/\W'.cell? ⟨b,2,none⟩=some (.string x.name)/\W'.cell? ⟨b,3,none⟩=some (.slice A x.sub.length c):=
 ⟨(K1 hk _ _ hb am).trans h.1,(K1 hk _ _ hb am).trans h.2.1,(K1 hk _ _ hb am).trans h.2.2.1,(K1 hk _ _ hb am).trans h.2.2.2⟩
theorem ea4 {b:Nat} {W:World} {x:Ex} {A:Option Addr} {c:Nat} (o:Obj) (h:W.cell? ⟨b,0,none⟩=some (.int .i64 x.kind)/\W.cell? ⟨b,1,none⟩=some (.int .i32 x.n)/\W.cell? ⟨b,2,none⟩=some (.string x.name)/\W.cell? ⟨b,3,none⟩=some (.slice A x.sub.length c)):(W.alloc o).cell? ⟨b,0,none⟩=some (.int .i64 x.kind)/\(W.alloc o).cell? ⟨b,1,none⟩=some (.int .i32 x.n)/\(W.alloc o).cell? ⟨b,2,none⟩=some (.string x.name)/\(W.alloc o).cell? ⟨b,3,none⟩=some (.slice A x.sub.length c):=⟨J4 h.1,J4 h.2.1,J4 h.2.2.1,J4 h.2.2.2⟩
theorem Kiw (W:World) (x:Ex) (A:Option Addr) (c:Nat) (t:TypeId):(W.alloc (.cells #[.int .i64 x.kind,.int .i32 x.n,.string x.name,.slice A x.sub.length c] t)).cell? ⟨W.heap.size,0,none⟩=some (.int .i64 x.kind)/\(W.alloc (.cells #[.int .i64 x.kind,.int .i32 x.n,.string x.name,.slice A x.sub.length c] t)).cell? ⟨W.heap.size,1,none⟩=some (.int .i32 x.n)/\(W.alloc (.cells #[.int .i64 x.kind,.int .i32 x.n,.string x.name,.slice A x.sub.length c] t)).cell? ⟨W.heap.size,2,none⟩=some (.string x.name)/\(W.alloc (.cells #[.int .i64 x.kind,.int .i32 x.n,.string x.name,.slice A x.sub.length c] t)).cell? ⟨W.heap.size,3,none⟩=some (.slice A x.sub.length c):=by
 refine⟨?_,?_,?_,?_⟩ <;> rw [Kw] <;> rfl
theorem Klb {B:Nat} {ts:List Tk} {A:Option Addr} {cap f:Nat} {st:St} {W:World} (hx:Kis B ts A cap f 43 .expr st) (h:X2 B ts A cap W st) (ai:ts.length<=100000) (h0:((Kc7 ts st).getD tkZ).kind≠2) (h1:Kc5 ts st ⟨#[116,114,117,101]⟩=false) (h2:Kc5 ts st ⟨#[102,97,108,115,101]⟩=false)
  (h3:Kc5 ts st ⟨#[40]⟩=true) :
  Calls Tryz.prog 137 #[.pointer (some ⟨B,0,none⟩)] W (Kdq B ts A cap W ((K3 ts f .expr (Kc6 ts st ⟨#[40]⟩)).1,Kda ts (K3 ts f .expr (Kc6 ts st ⟨#[40]⟩)).2 ⟨#[41]⟩)):=by
 have am:=(Ket h3).1;rw [Kdu h3];have vK:=fun W' h=>hx ⟨st.pos+1,st.bad⟩ W' h Uh am;generalize K3 ts f .expr ⟨st.pos+1,st.bad⟩=R at vK ⊢;unfold Kdq Ke9 exV at vK;have cm:=h.lt;have nn:=h.le;have aS:W.heap.size≠B:=Ua;have qU:=fun W' hb=>Kej (W:=W') (h.later hb);generalize (Kc7 ts st).getD tkZ=t at qU h0;generalize (Kc7 ts st).isSome=o at qU;obtain⟨tk,tx,tn,tp⟩:=t;unfold tkV at qU;dsimp only at qU h0;have t2:(tk == 2)=false:=Lv;have HP:=Nf h;clear h h0;clear hx;obtain⟨x,st2⟩:=R;dsimp only at vK ⊢
 go_enter Tryz.func137,Tryz.ntmps137
 go_wp2_with (first
  | (go_at_call 85;go_loud (refine(qU _ Jb).mono ?_;rintro r w1 ⟨rfl,ac⟩;have ii:=(HP.out.later (show Below W.heap.size W w1 from Jb)).alloc (.cells #[.int .i64 tk,.string tx,.int .i32 tn,.int .i64 tp] 103);have wd:=(J6.bel (S:=fun b=>b=B) ac).alloc (.cells #[.int .i64 tk,.string tx,.int .i32 tn,.int .i64 tp] 103)))
  | (go_at_call_of 18 (Value.string ⟨#[116,114,117,101]⟩);go_loud (refine(Kdf ii h1 ai).mono ?_;rintro r w2 ⟨rfl,gL,hk⟩;have zH:=wd.trans' hk;clear hk))
  | (go_at_call_of 18 (Value.string ⟨#[102,97,108,115,101]⟩);go_loud (refine(Kdf gL h2 ai).mono ?_;rintro r w3 ⟨rfl,ip,hk⟩;have hK3:=zH.trans' hk;clear hk))
  | (go_at_call_of 18 (Value.string ⟨#[40]⟩);go_loud (refine(Kdr ip h3 ai).mono ?_;rintro r w4 ⟨rfl,bT,hk⟩;have hK4:=hK3.trans' hk;clear hk;have aW:=K1 hK4;have bS:=kfz hK4;have hz:=hK4.size;(try simp at hz);have dG:=lt0 W w4))
  | (go_at_call 43;go_loud (refine(vK _ bT).mono ?_;rintro r w5 ⟨⟨_,rfl,A5,c5,rfl,ho5⟩,dv,bb⟩;have yx:=bb.size;have er:w5.heap.size≠B:=Ua))
  | (go_at_call 37;go_loud (refine(Koc (dv.alloc _) ⟨#[41]⟩ ai).mono ?_;rintro r w6 ⟨rfl,tj,cu⟩;have aW:=K1 (hK4.trans' (bb.trans' (K2 cu)));have bS:=kfz (hK4.trans' (bb.trans' (K2 cu)));have hc6:=K1 cu;have hz6:=cu.size;(try simp at hz6);have dG:=lt0 W w6;have cA:=lt0 w5 w6)))
 refine Nv (v:=exV x A5 c5) (by simp [results,Tryz.results137,go_sem,exV, *]) rfl ?_;exact⟨⟨_,rfl,A5,c5,rfl,Kgf (Kn7 (b1:=0) ho5 Ua cu) Ua Ua _ _ _ _⟩,Kd0 tj cm _ _ _ _,Kdp (K2 (hK4.trans' (bb.trans' (K2 cu)))) (Ns _) _ _ _ _⟩
theorem Kk2 {B:Nat} {ts:List Tk} {A:Option Addr} {cap f:Nat} {st:St} {W:World} (hx:Kis B ts A cap f 124 .factor st) (h:X2 B ts A cap W st) (ai:ts.length<=100000) (h0:((Kc7 ts st).getD tkZ).kind≠2) (h1:Kc5 ts st ⟨#[116,114,117,101]⟩=false) (h2:Kc5 ts st ⟨#[102,97,108,115,101]⟩=false)
  (h3:Kc5 ts st ⟨#[40]⟩=false) (h4:Kc5 ts st ⟨#[105,102]⟩=false) (h5:Kc5 ts st ⟨#[109,101,114,103,101]⟩=true) (C:ByteArray×St) (hC:C=Kdn ts (Kc6 ts st ⟨#[109,101,114,103,101]⟩)) (a b:Ex×St) (ha:a=K3 ts f .factor C.2) (hb:b=K3 ts f .factor a.2) :
  Calls Tryz.prog 137 #[.pointer (some ⟨B,0,none⟩)] W (Kdq B ts A cap W (.mk 10 0 C.1 [a.1,b.1],b.2)):=by
 have am:=(Ket h5).1;rw [Kdu h5] at hC;have aL:=fun W' (h':X2 B ts A cap W' ⟨st.pos+1,st.bad⟩)=>Kfd h' ai;have g1:=Kdz ts ⟨st.pos+1,st.bad⟩;rw [<-hC] at aL g1;have g1a:st.pos+1<=C.2.pos:=g1.1;have g1b:=g1.2 Ui;have vK:=fun W' h=>hx C.2 W' h Ua g1b;have g2:=Ke3 ts f .factor C.2;rw [<-ha] at vK g2;have g2a:=g2.1;have g2b:=g2.2 g1b;have qh:=fun W' h=>hx a.2 W' h Ua g2b;rw [<-hb] at qh;unfold Kdq Ke9 exV at vK qh;have cm:=h.lt;have nn:=h.le;have aS:W.heap.size≠B:=Ua;have qU:=fun W' hb=>Kej (W:=W') (h.later hb);generalize (Kc7 ts st).getD tkZ=t at qU h0;generalize (Kc7 ts st).isSome=o at qU;obtain⟨tk,tx,tn,tp⟩:=t;unfold tkV at qU;dsimp only at qU h0;have t2:(tk == 2)=false:=Lv;have HP:=Nf h;clear h h0;clear hx hC ha hb g1 g2 g1a g1b g2a g2b;obtain⟨cn,st2⟩:=C;obtain⟨x,st3⟩:=a;obtain⟨y,st4⟩:=b;dsimp only at vK qh aL ⊢
 go_enter Tryz.func137,Tryz.ntmps137
 go_wp2_with (first
  | (go_at_call 85;go_loud (refine(qU _ Jb).mono ?_;rintro r w1 ⟨rfl,ac⟩;have ii:=(HP.out.later (show Below W.heap.size W w1 from Jb)).alloc (.cells #[.int .i64 tk,.string tx,.int .i32 tn,.int .i64 tp] 103);have wd:=(J6.bel (S:=fun b=>b=B) ac).alloc (.cells #[.int .i64 tk,.string tx,.int .i32 tn,.int .i64 tp] 103)))
  | (go_at_call_of 18 (Value.string ⟨#[116,114,117,101]⟩);go_loud (refine(Kdf ii h1 ai).mono ?_;rintro r w2 ⟨rfl,gL,hk⟩;have zH:=wd.trans' hk;clear hk))
  | (go_at_call_of 18 (Value.string ⟨#[102,97,108,115,101]⟩);go_loud (refine(Kdf gL h2 ai).mono ?_;rintro r w3 ⟨rfl,ip,hk⟩;have hK3:=zH.trans' hk;clear hk))
  | (go_at_call_of 18 (Value.string ⟨#[40]⟩);go_loud (refine(Kdf ip h3 ai).mono ?_;rintro r w4 ⟨rfl,bT,hk⟩;have hK4:=hK3.trans' hk;clear hk))
  | (go_at_call_of 18 (Value.string ⟨#[105,102]⟩);go_loud (refine(Kdf bT h4 ai).mono ?_;rintro r w5 ⟨rfl,dv,hk⟩;have hK5:=hK4.trans' hk;clear hk))
  | (go_at_call_of 18 (Value.string ⟨#[109,101,114,103,101]⟩);go_loud (refine(Kdr dv h5 ai).mono ?_;rintro r w6 ⟨rfl,tj,hk⟩;have hK6:=hK5.trans' hk;clear hk))
  | (go_at_call 38;go_loud (refine(aL _ tj).mono ?_;rintro r w7 ⟨rfl,hp7,hk⟩;have hK7:=hK6.trans' hk;clear hk;have hz:=hK7.size;(try simp at hz)))
  | (go_at_call 124;go_loud (refine(vK _ hp7).mono ?_;rintro r w8 ⟨⟨_,rfl,A8,c8,rfl,ho8⟩,hp8,hk8⟩;have hz8:=hk8.size;have er:w8.heap.size≠B:=Ua;have cA:w8.heap.size<(w8.alloc (.cells #[.int .i64 x.kind,.int .i32 x.n,.string x.name,.slice A8 x.sub.length c8] 73)).heap.size:=Uh)))
 have q:=Kiw w8 x A8 c8 73;have wu:=hp8.alloc (.cells #[.int .i64 x.kind,.int .i32 x.n,.string x.name,.slice A8 x.sub.length c8] 73);refine Kd (fun V:World=>V.cell? ⟨w8.heap.size,0,none⟩=some (.int .i64 x.kind)/\V.cell? ⟨w8.heap.size,1,none⟩=some (.int .i32 x.n)/\V.cell? ⟨w8.heap.size,2,none⟩=some (.string x.name)/\V.cell? ⟨w8.heap.size,3,none⟩=some (.slice A8 x.sub.length c8)) 5 2 Ue Gp ?_;simp only [List.size_toArray,Nl,Nm,Nat.zero_add,Nat.reduceAdd];have ar:(w8.alloc (.cells #[.int .i64 x.kind,.int .i32 x.n,.string x.name,.slice A8 x.sub.length c8] 73)).drew.cell? ⟨w8.heap.size,0,none⟩=some (.int .i64 x.kind)/\(w8.alloc (.cells #[.int .i64 x.kind,.int .i32 x.n,.string x.name,.slice A8 x.sub.length c8] 73)).drew.cell? ⟨w8.heap.size,1,none⟩=some (.int .i32 x.n)/\(w8.alloc (.cells #[.int .i64 x.kind,.int .i32 x.n,.string x.name,.slice A8 x.sub.length c8] 73)).drew.cell? ⟨w8.heap.size,2,none⟩=some (.string x.name)/\(w8.alloc (.cells #[.int .i64 x.kind,.int .i32 x.n,.string x.name,.slice A8 x.sub.length c8] 73)).drew.cell? ⟨w8.heap.size,3,none⟩=some (.slice A8 x.sub.length c8):=q;refine Ji 0 ar ?_;refine Ji 1 ar ?_;refine Ji 2 ar ?_;refine Kb 3 ?_;refine Jj fun K hK=>?_;go_simp;refine(qh _ wu.drew).mono ?_;rintro r w9 ⟨⟨_,rfl,A9,c9,rfl,ho9⟩,hp9,hk9⟩;dsimp only;have q9:=kc4 hk9 er cA q;refine hK _ _ ⟨q9,?_⟩;clear hK K
 try simp only [Act.put,sa1,sa2,sa3]
 refine Kb 4 ?_;refine Jj fun K hK=>?_;go_simp;refine hK _ _ ⟨ea4 _ q9,?_⟩;clear hK K
 try simp only [Act.put,sa1,sa2,sa3]
 have hk:=hK7.trans' (hk8.trans' ((J6.refl w8).alloc (.cells #[.int .i64 x.kind,.int .i32 x.n,.string x.name,.slice A8 x.sub.length c8] 73) |>.drew.trans' hk9));have aW:=K1 hk;have bS:=kfz hk;have hz9:=hk9.size;replace hz9:w8.heap.size+1<=w9.heap.size:=by simpa using hz9
 have dG:=lt0 W w9;have ho8':Off (W.heap.size+1) none w9 (fun V=>Jt V x A8 c8):=(ho8.kept Ua ((J6.refl w8).alloc (.cells #[.int .i64 x.kind,.int .i32 x.n,.string x.name,.slice A8 x.sub.length c8] 73) |>.drew.trans' hk9)).less Ua;have ho9':Off (W.heap.size+1) none w9 (fun V=>Jt V y A9 c9):=ho9.less (by show W.heap.size+1<=(w8.alloc _).heap.size;simp;omega);clear q q9 ar hk8 hk9 ho8 ho9 wd hK5 hK6 hK7 wu;refine Kh Ue ?_;refine Qx 5 ?_;refine Jj fun K hK=>?_;go_simp;refine hK _ _ ?_;clear hK K
 try simp only [Act.put,sa1,sa2,sa3]
 refine Qx 6 ?_;refine Jj fun K hK=>?_;go_simp;refine hK _ _ ?_;clear hK K
 try simp only [Act.put,sa1,sa2,sa3]
 refine Ki Ue ?_
 go_wp2_with fail
 refine Nv (v:=exV (.mk 10 0 cn [x,y]) (some ⟨w9.heap.size,0,none⟩) 2) U8 rfl ?_;exact⟨⟨_,rfl,_,_,rfl,Knp ho8' ho9' Ua Ua Ua Ua Ua⟩,Kga hp9 cm _ _ _ _ _,Kfp (K2 hk) (Ns _) _ _ _ _ _⟩
section
variable {P:Program} {ops:Array Oper} {Q:Exit->Act->World->Prop} {md:Region.Mode} {S:World->Prop}
theorem Jfe {n g i j:Nat} {oi oj:Oper} {f:Nat} {listed:Array Bool} {a:Act} {w:World} (hr:Region.ready md ops listed = [i,j]) (hi:ops[i]?=some oi) (hj:ops[j]?=some oj) (hg:oi.guard=none) (hgj:oj.guard=none)
  (h:oi.wp P a w (fun a' w'=>S w'/\Jab P md ops Q S n g f (listed.setIfInBounds i true) a' w') Q) (h2:oj.wp P a w (fun a' w'=>S w'/\Jab P md ops Q S n g f (listed.setIfInBounds j true) a' w') Q):Jab P md ops Q S n g (f+1) listed a w:=by
 refine⟨fun h0=>G4,fun k hk=>?_⟩;rw [hr] at hk;simp only [List.mem_cons,List.not_mem_nil,or_false] at hk
 rcases hk with rfl|rfl
 ·exact Ubf
 ·exact Uau
theorem Jrr {n g i j l:Nat} {oi oj ol:Oper} {f:Nat} {listed:Array Bool} {a:Act} {w:World} (hr:Region.ready md ops listed = [i,j,l]) (hi:ops[i]?=some oi) (hj:ops[j]?=some oj) (hl:ops[l]?=some ol) (hg:oi.guard=none) (hgj:oj.guard=none) (eS:ol.guard=none)
  (h:oi.wp P a w (fun a' w'=>S w'/\Jab P md ops Q S n g f (listed.setIfInBounds i true) a' w') Q) (h2:oj.wp P a w (fun a' w'=>S w'/\Jab P md ops Q S n g f (listed.setIfInBounds j true) a' w') Q) (h3:ol.wp P a w (fun a' w'=>S w'/\Jab P md ops Q S n g f (listed.setIfInBounds l true) a' w') Q):Jab P md ops Q S n g (f+1) listed a w:=by
 refine⟨fun h0=>G4,fun k hk=>?_⟩;rw [hr] at hk;simp only [List.mem_cons,List.not_mem_nil,or_false] at hk
 rcases hk with rfl|rfl|rfl
 ·exact Ubf
 ·exact Uau
 ·unfold wpOp;have hw:Region.wanted ol (yielded ops a.tmps)=true:=by simp [Region.wanted,eS]
  simp only [hl,hw,if_true];exact .inl h3
end
end Go.Proofs.YtdgjplldlfeolaaGreatDoor
namespace Go.Proofs.YtdgjplldlfeolaaGreatDoor
open Go.RowKit
def leB:Nat->Nat->List Int
 | 0,_=>[]
 | w+1,n=>((n % 256:Nat):Int) :: leB w (n / 256)
theorem Y4:∀w n,(leB w n).length=w
 | 0,_=>rfl
 | w+1,n=>by rw [leB,Nl,Y4 w]
def Xh (a:Int):Nat:=(a % 4294967296).toNat
theorem Jne (a:Int):Xh a<4294967296:=by unfold Xh;omega
def Jdm (i:Int×Int):List Int:=i.1 :: leB (Qp i.1).toNat (Xh i.2)
def Ja7 (c:List (Int×Int)):List Int:=c.flatMap Jdm
def Je9 (l:List Int):List Int:=l.flatMap fun v=>leB 4 (Xh v)
def Jcs (x:List Int):List Int:=leB 2 x.length ++ x
theorem Jlt (op:Int):0<=Qp op/\Qp op<=4:=by
  unfold Qp;repeat' split
  all_goals omega
theorem Jnq (i:Int×Int):(Jdm i).length<=5:=by
 unfold Jdm;have:=Jlt i.1;rw [Nl,Y4];omega
theorem Jit (c:List (Int×Int)):(Ja7 c).length<=5 * c.length:=by
 unfold Ja7
 induction c with
 | nil=>simp
 | cons i c ih=>
  have:=Jnq i;rw [List.flatMap_cons,Nk,Nl];omega
theorem Jsn (l:List Int):(Je9 l).length=4 * l.length:=by
 unfold Je9
 induction l with
 | nil=>simp
 | cons i c ih=>rw [List.flatMap_cons,Nk,Nl,Y4];omega
theorem Js9 (c:List (Int×Int)) (i:Int×Int):Ja7 (c ++ [i])=Ja7 c ++ Jdm i:=by unfold Ja7;simp
end Go.Proofs.YtdgjplldlfeolaaGreatDoor
namespace Go.Proofs.YtdgjplldlfeolaaGreatDoor
open Go.RowKit Go.Sort
theorem Jgl:(Tryz.prog.info? 5).map (fun i=>(i.zero,i.size,i.bytes))=some (some (.int .u8 0),1,1):=Ue
theorem Jxv:(Tryz.prog.info? 22).map (fun i=>(i.zero,i.size,i.bytes))=some (some (.int .u32 0),1,4):=Ue
def Qc (w:World) (xs:List Value) (n:Nat) (A:Option Addr) (cap:Nat):Prop:=n<=cap/\cap<=maxLen/\X6 w A n 1 xs
theorem Qc.later {w w':World} {xs:List Value} {n:Nat} {A:Option Addr} {cap:Nat} (h:Qc w xs n A cap) (hb:Below w.heap.size w w'):Qc w' xs n A cap:=⟨h.1,h.2.1,Jds h.2.2 hb⟩
theorem Qc.of_own {w:World} {base:Nat} {e:TypeId} {xs:List Value} {n:Nat} {v:Value} (h:w.ownsRow base e 1 v n xs):∃A cap,v = .slice A n cap/\Qc w xs n A cap:=by
 obtain⟨A,cap,rfl,h1,h2⟩:=Jv h;refine⟨A,cap,rfl,h1,h2,h.1,fun hm=>?_⟩;exact Ubh
theorem Qc.nil (w:World):Qc w [] 0 none 0:=⟨Ns _,Uo,rfl,fun h=>absurd h Ua⟩
theorem Qc.get {w:World} {xs:List Value} {n:Nat} {A:Option Addr} {cap:Nat} (h:Qc w xs n A cap) {k:Nat} {u:Value} (hk:xs[k]?=some u):∃b off,A=some ⟨b,off,none⟩/\b<w.heap.size/\w.cell? ⟨b,off+k,none⟩=some u:=by
 have hl:xs.length=n * 1:=h.2.2.1;have am:=(Nh hk).1;obtain⟨b,off,hA,hc⟩:=h.2.2.2 Ua;exact⟨b,off,hA,Nu (hc k u hk),hc k u hk⟩
theorem Qc.ads {w:World} {xs:List Value} {n:Nat} {A:Option Addr} {cap:Nat} (h:Qc w xs n A cap) (W:World) (hb:Below w.heap.size w W) (h0:0<xs.length):∃ad,A=some ad/\∀(j:Nat) (v:Value),xs[j]?=some v->W.cell? (ad.add j)=some v:=by
 have hl:xs.length=n * 1:=h.2.2.1;obtain⟨b,off,hA,hc⟩:=(h.later hb).2.2.2 Ua;exact⟨_,hA,fun j u hj=>by rw [show(⟨b,off,none⟩:Addr).add j=⟨b,off+j,none⟩ by unfold Addr.add;split <;> simp_all];exact hc j u hj⟩
def byU (l:List Int):List Value:=l.map (.int .u8)
def wdU (l:List Nat):List Value:=l.map fun(x:Nat)=>Value.int .u32 (Int.ofNat x)
def nuI (l:List Int):List Value:=l.map (.int .i32)
theorem Ji3 (l:List Int):(byU l).length=l.length:=by unfold byU;simp
theorem Jeu (a b:List Int):byU (a ++ b)=byU a ++ byU b:=by unfold byU;simp
theorem Jgm (l:List Int):∀u∈byU l,u.oneCell'=true:=by
 intro u hu;unfold byU at hu;obtain⟨x,_,rfl⟩:=List.mem_map.1 hu;exact Gp
theorem Jyi (a b:List Nat):wdU (a ++ b)=wdU a ++ wdU b:=by unfold wdU;simp
theorem Jyh {l:List Nat} {k x:Nat} (h:l[k]?=some x):(wdU l)[k]?=some (.int .u32 (x:Int)):=by unfold wdU;rw [List.getElem?_map,h];rfl
theorem Jx3 {l:List Int} {k:Nat} {x:Int} (h:l[k]?=some x):(nuI l)[k]?=some (.int .i32 x):=by unfold nuI;rw [List.getElem?_map,h];rfl
theorem Jgy:∀(k n:Nat),leB (k+1) n=leB k n ++ [((n / 256 ^ k % 256:Nat):Int)]
 | 0,n=>by simp [leB]
 | k+1,n=>by
  rw [leB,Jgy k (n / 256)]
  conv=>rhs;rw [leB]
  rw [List.cons_append,Nat.div_div_eq_div_mul,Nat.pow_succ,Nat.mul_comm 256]
theorem Jgt {w:World} {base g:Nat} {e:TypeId} {xs cur:List Value} {n cap:Nat} (hg:w.heap[g]?=some (.cells (splice cur 0 xs).toArray e (0,0))) (hb:base<=g) (hn:n<=cap) (hc:cap<=maxLen) (hx:xs.length=n) (hl:cur.length=cap) :
  w.ownsRow base e 1 (.slice (some ⟨g,0,none⟩) n cap) n xs:=by
 refine⟨Ua,.inr ⟨g,cap,_,rfl,hb,hg,hn,hc,?_,?_⟩⟩
 ·rw [List.size_toArray,length_splice _ _ _ Ua];omega
 ·unfold splice;rw [List.take_zero,List.nil_append,show(xs ++ cur.drop (0+xs.length)).toArray.toList=xs ++ cur.drop (0+xs.length) from rfl,List.take_append_of_le_length Ua,List.take_of_length_le Ua]
theorem Jln (a:Int) (w:World):Calls Tryz.prog 62 #[.int .i32 a] w fun r w'=>r = .returned (.int .u32 (Xh a:Nat))/\w'=w:=by
 have hv:IntKind.u32.wrap a=((Xh a:Nat):Int):=by
  unfold Xh;simp [IntKind.wrap,IntKind.bits,IntKind.signed];omega
 go_enter Tryz.func62,Tryz.ntmps62
 go_wp2_with fail
 go_ret;exact⟨by simp [hv],rfl⟩
def Y8 (w:World) (l:List Int) (r:Ending) (w':World):Prop:=(∃v,r = .returned (.tuple #[v,.int .i64 0])/\w'.ownsRow w.heap.size 5 1 v l.length (byU l))/\Below w.heap.size w w'
theorem Jm0 (l:List Int) (A:Option Addr) (cap n:Nat) (w:World) (hb:Qc w (byU l) l.length A cap) (hl:l.length<=100000) (hn:n<256) :
  Calls Tryz.prog 59 #[.slice A l.length cap,.int .i64 1,.int .u64 n] w (Y8 w (l ++ leB 1 n)):=by
 unfold Y8
 have hz:((n:Int) / 256 != 0)=false:=by
  have:(n:Int) / 256=0:=Ua;rw [this];rfl
 have jH:=fun W:World=>run_make (P:=Tryz.prog) W 50 5 (Tryz.prog.info? 5).get! (.int .u8 0) Tryz.underlying50 Ue Ue .i64 .i64 (l.length:Int) ((l.length:Int)+1) Ua Ua Lb Ua;rw [show(Tryz.prog.info? 5).get!.size=1 by kernel_rfl] at jH;simp only [show((l.length:Int)+1).toNat=l.length+1 by omega,show((l.length:Int)).toNat=l.length by omega,Nat.mul_one] at jH;have ij:=Ji3 l;have eg:=hb.ads;have HCP:=Nf eg;clear hb eg
 go_enter Tryz.func59,Tryz.ntmps59
 go_wp2_with ((refine wpList_copy_splice rfl (.tmp 33) (.tmp 34) 50 50 rfl 5 Tryz.underlying50 Ue _ _ l.length (l.length+1) l.length cap rfl rfl w.heap.size 0 (madeCells (Value.int .u8 0).cells (l.length+1)).toList 5 Fu (byU l) Dg (fun h0=>⟨rfl,HCP.out _ (Jc (Nt) _) h0⟩) L7 (Jgm l) w.heap.size w (Jc (Nt) _) (Ns _) ?_;intro w1 ay ac))
 have eo:=Jgt (base:=w.heap.size) ay (Ns _) (show l.length<=l.length+1 by omega) Uo ij Gq;clear ay
 go_loopw [8,37] (fun v i wr=>∃k:Nat,k<=1/\i = .int .i64 k/\wr.ownsRow w.heap.size 5 1 v (l.length+k) (byU (l ++ leB k n))/\Below w.heap.size w wr) (fun _ i _=>1-(intOf i).toNat)
 case atStart=>exact⟨0,Ua,rfl,by simpa [leB] using eo,ac⟩
 case round=>
  obtain⟨k,hk,rfl,ae,ab⟩:=hrel;have hz:=ab.size;obtain⟨A2,c2,rfl,ak,dm⟩:=Jv ae;unfold maxLen at dm
  by_cases am:k<1
  ·exact Uc7
  ·obtain rfl:k=1:=Ua
   go_wp2_with fail
   go_ret2
   exact⟨⟨_,rfl,G6⟩,ab⟩
theorem Jig (l:List Int) (A:Option Addr) (cap n:Nat) (w:World) (hb:Qc w (byU l) l.length A cap) (hl:l.length<=100000) (hn:n<65536) :
  Calls Tryz.prog 59 #[.slice A l.length cap,.int .i64 2,.int .u64 n] w (Y8 w (l ++ leB 2 n)):=by
 unfold Y8
 have hz:((n:Int) / 65536 != 0)=false:=by
  have:(n:Int) / 65536=0:=Ua;rw [this];rfl
 have jH:=fun W:World=>run_make (P:=Tryz.prog) W 50 5 (Tryz.prog.info? 5).get! (.int .u8 0) Tryz.underlying50 Ue Ue .i64 .i64 (l.length:Int) ((l.length:Int)+2) Ua Ua Lb Ua;rw [show(Tryz.prog.info? 5).get!.size=1 by kernel_rfl] at jH;simp only [show((l.length:Int)+2).toNat=l.length+2 by omega,show((l.length:Int)).toNat=l.length by omega,Nat.mul_one] at jH;have ij:=Ji3 l;have eg:=hb.ads;have HCP:=Nf eg;clear hb eg
 go_enter Tryz.func59,Tryz.ntmps59
 go_wp2_with ((refine wpList_copy_splice rfl (.tmp 33) (.tmp 34) 50 50 rfl 5 Tryz.underlying50 Ue _ _ l.length (l.length+2) l.length cap rfl rfl w.heap.size 0 (madeCells (Value.int .u8 0).cells (l.length+2)).toList 5 Fu (byU l) Dg (fun h0=>⟨rfl,HCP.out _ (Jc (Nt) _) h0⟩) L7 (Jgm l) w.heap.size w (Jc (Nt) _) (Ns _) ?_;intro w1 ay ac))
 have eo:=Jgt (base:=w.heap.size) ay (Ns _) (show l.length<=l.length+2 by omega) Uo ij Gq;clear ay
 go_loopw [8,37] (fun v i wr=>∃k:Nat,k<=2/\i = .int .i64 k/\wr.ownsRow w.heap.size 5 1 v (l.length+k) (byU (l ++ leB k n))/\Below w.heap.size w wr) (fun _ i _=>2-(intOf i).toNat)
 case atStart=>exact⟨0,Ua,rfl,by simpa [leB] using eo,ac⟩
 case round=>
  obtain⟨k,hk,rfl,ae,ab⟩:=hrel;have hz:=ab.size;obtain⟨A2,c2,rfl,ak,dm⟩:=Jv ae;unfold maxLen at dm
  by_cases am:k<2
  ·exact Uc7
  ·obtain rfl:k=2:=Ua
   go_wp2_with fail
   go_ret2
   exact⟨⟨_,rfl,G6⟩,ab⟩
theorem Jnb (l:List Int) (A:Option Addr) (cap n:Nat) (w:World) (hb:Qc w (byU l) l.length A cap) (hl:l.length<=100000) (hn:n<4294967296) :
  Calls Tryz.prog 59 #[.slice A l.length cap,.int .i64 4,.int .u64 n] w (Y8 w (l ++ leB 4 n)):=by
 unfold Y8
 have hz:((n:Int) / 4294967296 != 0)=false:=by
  have:(n:Int) / 4294967296=0:=Ua;rw [this];rfl
 have jH:=fun W:World=>run_make (P:=Tryz.prog) W 50 5 (Tryz.prog.info? 5).get! (.int .u8 0) Tryz.underlying50 Ue Ue .i64 .i64 (l.length:Int) ((l.length:Int)+4) Ua Ua Lb Ua;rw [show(Tryz.prog.info? 5).get!.size=1 by kernel_rfl] at jH;simp only [show((l.length:Int)+4).toNat=l.length+4 by omega,show((l.length:Int)).toNat=l.length by omega,Nat.mul_one] at jH;have ij:=Ji3 l;have eg:=hb.ads;have HCP:=Nf eg;clear hb eg
 go_enter Tryz.func59,Tryz.ntmps59
 go_wp2_with ((refine wpList_copy_splice rfl (.tmp 33) (.tmp 34) 50 50 rfl 5 Tryz.underlying50 Ue _ _ l.length (l.length+4) l.length cap rfl rfl w.heap.size 0 (madeCells (Value.int .u8 0).cells (l.length+4)).toList 5 Fu (byU l) Dg (fun h0=>⟨rfl,HCP.out _ (Jc (Nt) _) h0⟩) L7 (Jgm l) w.heap.size w (Jc (Nt) _) (Ns _) ?_;intro w1 ay ac))
 have eo:=Jgt (base:=w.heap.size) ay (Ns _) (show l.length<=l.length+4 by omega) Uo ij Gq;clear ay
 go_loopw [8,37] (fun v i wr=>∃k:Nat,k<=4/\i = .int .i64 k/\wr.ownsRow w.heap.size 5 1 v (l.length+k) (byU (l ++ leB k n))/\Below w.heap.size w wr) (fun _ i _=>4-(intOf i).toNat)
 case atStart=>exact⟨0,Ua,rfl,by simpa [leB] using eo,ac⟩
 case round=>
  obtain⟨k,hk,rfl,ae,ab⟩:=hrel;have hz:=ab.size;obtain⟨A2,c2,rfl,ak,dm⟩:=Jv ae;unfold maxLen at dm
  by_cases am:k<4
  ·exact Uc7
  ·obtain rfl:k=4:=Ua
   go_wp2_with fail
   go_ret2
   exact⟨⟨_,rfl,G6⟩,ab⟩
theorem Jq2 (l x:List Int) (A:Option Addr) (cap:Nat) (A2:Option Addr) (cap2:Nat) (w:World) (hb:Qc w (byU l) l.length A cap) (hx:Qc w (byU x) x.length A2 cap2) (hl:l.length<=100000) (hn:x.length<=65535) :
  Calls Tryz.prog 61 #[.slice A l.length cap,.slice A2 x.length cap2] w (Y8 w (l ++ Jcs x)):=by
 unfold Y8;have iF:=fun W h=>Jig l A cap x.length W (hb.later h) hl Ua;unfold Y8 at iF;have vK:=hx.1;have qh:=hx.2.1;unfold maxLen at qh;have cY:(l ++ leB 2 x.length).length=l.length+2:=by rw [Nk,Y4]
 rw [cY] at iF
 have ky:IntKind.u64.wrap (x.length:Int)=(x.length:Int):=by
  exact Ub5
 have HX:=Nf hx;clear hb hx cY
 go_enter Tryz.func61,Tryz.ntmps61
 go_wp2_with (first
  | (go_at_call 59;refine(iF _ Jb).mono ?_;rintro r w1 ⟨⟨v,rfl,ae⟩,ac⟩;have af:=ac.size)
  | (at_builtin;go_loud (refine K6 rfl (.tmp 22) (.tmp 23) 50 rfl w.heap.size 5 _ 1 1 Tryz.underlying50 Jgl rfl Ua v (l.length+2) (byU (l ++ leB 2 x.length)) A2 x.length cap2 (byU x) rfl ae rfl (HX.out.later Jb).2.2 (Jgm _) Ua Ua Ua ?_;intro v2 w2 ao aq)))
 go_ret2
 exact⟨⟨v2,rfl,by unfold Jcs;rw [<-List.append_assoc,Jeu (l ++ leB 2 x.length),show(l ++ leB 2 x.length ++ x).length=l.length+2+x.length by simp [Y4];omega];exact ao⟩,ac.trans aq⟩
def Jax (l:List Nat):List Int:=l.flatMap (leB 4)
theorem Jrv (l:List Nat):(Jax l).length=4 * l.length:=by
 unfold Jax
 induction l with
 | nil=>rfl
 | cons x l ih=>rw [List.flatMap_cons,Nk,ih,Y4,Nl];omega
theorem Jqi (l:List Nat) (x:Nat):Jax (l ++ [x])=Jax l ++ leB 4 x:=by unfold Jax;simp
theorem Kaj (x:Nat):byU (leB 4 x) = [.int .u8 ((x:Int) % 256),.int .u8 ((x:Int) / 256 % 256),.int .u8 ((x:Int) / 65536 % 256),.int .u8 ((x:Int) / 16777216 % 256)]:=by
 simp only [leB,byU,List.map_cons,List.map_nil];rw [Nat.div_div_eq_div_mul,Nat.div_div_eq_div_mul];exact Uh
theorem Jtd (l:List Nat) (A:Option Addr) (cap:Nat) (w:World) (hb:Qc w (wdU l) l.length A cap) (hl:l.length<=1000) (hx:∀x∈l,x<4294967296) :
  Calls Tryz.prog 63 #[.slice A l.length cap] w fun r w'=>(∃v,r = .returned v/\w'.ownsRow w.heap.size 5 1 v (Jax l).length (byU (Jax l)))/\Below w.heap.size w w':=by
 have jH:=fun W:World=>run_make (P:=Tryz.prog) W 50 5 (Tryz.prog.info? 5).get! (.int .u8 0) Tryz.underlying50 Ue Ue .i64 .i64 0 (4 * (l.length:Int)) Ua Ua Lb Ua;rw [show(Tryz.prog.info? 5).get!.size=1 by kernel_rfl] at jH;simp only [show(4 * (l.length:Int)).toNat=4 * l.length by omega,show(0:Int).toNat=0 by omega,Nat.mul_one] at jH;have ac:=hb.1;have aq:=hb.2.1;unfold maxLen at aq;have HB:=Nf hb;have HX:=Nf hx;clear hb hx
 go_enter Tryz.func63,Tryz.ntmps63
 go_wp2_with fail
 go_loopw [3,12] (fun v i wr=>∃k:Nat,k<=l.length/\i = .int .i64 k/\wr.ownsRow w.heap.size 5 1 v (4 * k) (byU (Jax (l.take k)))/\Below w.heap.size w wr) (fun _ i _=>l.length-(intOf i).toNat)
 case atStart=>
  refine⟨0,Ua,rfl,?_,Jc (Nt) _⟩;exact⟨rfl,.inr ⟨w.heap.size,4 * l.length,_,rfl,Ns _,heap_alloc_new w _,Ua,Uo,by rw [size_madeCells];omega,by simp [Jax,byU]⟩⟩
 case round=>
  obtain⟨k,hk,rfl,ae,ab⟩:=hrel;have hz:=ab.size;obtain⟨A2,c2,rfl,ak,dm⟩:=Jv ae;unfold maxLen at dm
  by_cases am:k<l.length
  ·have hx:l[k]?=some l[k]:=Ng am;have aP:l.take (k+1)=l.take k ++ [l[k]]:=U7;have jN:=HX.out l[k] (Nj am);generalize l[k]=x at hx aP jN;obtain⟨b,off,rfl,aH,ev⟩:=(HB.out.later ab).get (Jyh hx)
   have nn:byU (Jax (l.take (k+1)))=byU (Jax (l.take k)) ++ [.int .u8 ((x:Int) % 256),.int .u8 ((x:Int) / 256 % 256),.int .u8 ((x:Int) / 65536 % 256),.int .u8 ((x:Int) / 16777216)]:=by
    rw [aP,Jqi,Jeu,Kaj,show(x:Int) / 16777216 % 256=(x:Int) / 16777216 by omega]
   have vC:=Nf nn;clear nn aP hx
   go_wp2_with (at_builtin;go_loud (refine K6 rfl (.tmp 16) (.tmp 28) 50 rfl w.heap.size 5 _ 1 1 Tryz.underlying50 Jgl rfl Ua (.slice A2 (4 * k) c2) (4 * k) (byU (Jax (l.take k))) (some ⟨wr.heap.size,0,none⟩) 4 4 [.int .u8 ((x:Int) % 256),.int .u8 ((x:Int) / 256 % 256),.int .u8 ((x:Int) / 65536 % 256),.int .u8 ((x:Int) / 16777216)] rfl Uca rfl ⟨rfl,fun _=>⟨wr.heap.size,0,rfl,fun j u hj=>by rw [Nat.zero_add,Kw];simpa using hj⟩⟩ Vg Ua Ua Ly ?_);intro v2 w2 ao aq)
   go_roundw
   case rel=>exact⟨k+1,Ua,Uw,Sm,(Jc ab _).trans aq⟩
   case measure=>simp [intOf];omega
  ·obtain rfl:k=l.length:=Ua;rw [List.take_length] at ae
   go_wp2_with fail
   go_ret;exact⟨⟨_,rfl,by rw [Jrv];exact ae⟩,ab⟩
end Go.Proofs.YtdgjplldlfeolaaGreatDoor
namespace Go.Proofs.YtdgjplldlfeolaaGreatDoor
open Go.RowKit
def leN:List Int->Nat
 | []=>0
 | x :: l=>x.toNat+256 * leN l
def Kow (l:List Int):Prop:=∀x∈l,0<=x/\x<256
theorem Ko1:∀w n,Kow (leB w n)
 | 0,_=>by simp [leB,Kow]
 | w+1,n=>by
  intro x hx;rw [leB] at hx
  rcases List.mem_cons.1 hx with rfl|hx
  ·exact Ua
  ·exact Ko1 w _ x hx
theorem Kpm:∀w n,n<256 ^ w->leN (leB w n)=n
 | 0,n,h=>by simp at h;subst h;rfl
 | w+1,n,h=>by
  rw [leB,leN,Kpm w (n / 256) Sd];exact Ua
theorem Kqs:∀(l:List Int) (x:Int),leN (l ++ [x])=leN l+256 ^ l.length * x.toNat
 | [],x=>by simp [leN]
 | y :: l,x=>by
  rw [List.cons_append,leN,leN,Kqs l x,Nl,Nat.pow_succ,Nat.mul_add];rw [show 256 ^ l.length * 256 * x.toNat=256 * (256 ^ l.length * x.toNat) by rw [Nat.mul_comm (256 ^ l.length) 256,Nat.mul_assoc]];exact Ua
theorem Kp4:∀(l:List Int),Kow l->leN l<256 ^ l.length
 | [],_=>by simp [leN]
 | x :: l,h=>by
  have h1:=h x Uh;have h2:=Kp4 l (fun y hy=>h y Mx);rw [leN,Nl,Nat.pow_succ];exact Ua
theorem Ktb (n x i:Nat) (h:n<256 ^ i):n ||| (x <<< (8 * i))=n+256 ^ i * x:=by
 have e:(256:Nat) ^ i=2 ^ (8 * i):=by rw [show(256:Nat)=2 ^ 8 from rfl,<-Nat.pow_mul]
 rw [e] at h ⊢;rw [Nat.shiftLeft_eq,Nat.mul_comm x,Nat.or_comm,<-Nat.two_pow_add_eq_or_of_lt h];exact Ua
theorem Krw (l:List Int) (x:Int) (h:Kow l):leN l ||| (x.toNat <<< (8 * l.length))=leN (l ++ [x]):=by
 rw [Ktb _ _ _ (Kp4 l h),Kqs]
theorem Ksa (v:Int):leN (leB 4 (Xh v))=Xh v:=Kpm 4 _ (by have:=Jne v;omega)
theorem Kqu {v:Int} (h:I32 v):IntKind.i32.wrap (Xh v:Int)=v:=by
 obtain⟨h1,h2⟩:=h;have e:((Xh v:Nat):Int)=v % 4294967296:=by unfold Xh;omega
 rw [e,IntKind.wrap_i32];exact Ua
end Go.Proofs.YtdgjplldlfeolaaGreatDoor
