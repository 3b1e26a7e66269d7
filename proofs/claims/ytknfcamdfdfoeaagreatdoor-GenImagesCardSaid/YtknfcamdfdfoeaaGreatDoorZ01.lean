/- Lemmas. -/
import Derived.Test.YtknfcamdfdfoeaaGreatDoorMac
import Derived.Test.YtknfcamdfdfoeaaGreatDoorZ00
set_option linter.unusedVariables false
set_option linter.unusedSimpArgs false
set_option maxRecDepth 100000
set_option maxHeartbeats 64000000
namespace Go.Proofs.YtknfcamdfdfoeaaGreatDoor
open Go.RowKit Go.Sort
theorem Jnc (e:Ex) (A:Option Addr) (cap:Nat) (w:World) (he:Jt w e A cap) :
  Calls Tryz.prog 145 #[exV e A cap] w fun r w'=>r = .returned (.int .i64 e.right)/\Below w.heap.size w w':=by
 have hv:e.right=if 120<e.count 121 then 3 else if 12<e.depth then 17 else if e.formed then 0 else 4:=rfl;have fB:=fun W h=>Jt2 e A cap 121 W (he.later h) Ua Ua
 by_cases h1:120<e.count 121
 ·rw [if_pos h1] at hv;have HV:=Nf hv;clear hv;unfold exV at fB ⊢
  go_enter Tryz.func145,Tryz.ntmps145
  go_wp2_with (first|(go_at_call 166;refine mo (fB _ Jb) fun w1 ac ak af bV=>?_;(try simp at af)))
  exact Udf
 rw [if_neg h1] at hv;have cE:=Ex.count_size e 121 Ua;have gY:=fun W h=>Juy e A cap W (he.later h) Ua;clear cE
 by_cases h2:12<e.depth
 ·rw [if_pos h2] at hv;have HV:=Nf hv;clear hv;unfold exV at fB gY ⊢
  go_enter Tryz.func145,Tryz.ntmps145
  go_wp2_with (first|(go_at_call 166;refine mo (fB _ Jb) fun w1 ac ak af bV=>?_;(try simp at af))|(go_at_call 167;refine mo (gY _ Jb) fun w1 ac ak af bV=>?_;(try simp at af)))
  exact Udf
 rw [if_neg h2] at hv;have iC:=fun W h=>Jtn e A cap W (he.later h)
 cases h3:e.formed
 ·rw [h3,if_neg Ul] at hv;exact Ufq
 ·rw [h3,if_pos rfl] at hv;exact Ufq
theorem Zq:(Tryz.prog.info? 9).map (fun i=>(i.zero,i.size,i.bytes))=some (some (.string ⟨#[]⟩),1,16):=Ug
theorem Jv4 (n:Int) (w:World):Calls Tryz.prog 150 #[.int .i32 n] w fun r w'=>r = .returned (.string (Ja6 n))/\w=w':=by
 go_enter Tryz.func150,Tryz.ntmps150
 go_wp2_with fail
 all_goals (go_ret;exact⟨Kk (by simp_all [Ja6]),rfl⟩)
theorem Jyv {e:Ex} (hs:e.showB.size<=100000000) {A:Option Addr} {cap:Nat} {w:World} (he:Jt w e A cap)
  (bY:∀W,Jt W e A cap->Calls Tryz.prog 131 #[exV e A cap] W fun r w'=>r = .returned (.string e.showB)/\Below W.heap.size W w') :
  Calls Tryz.prog 148 #[exV e A cap] w fun r w'=>r = .returned (.string e.partB)/\Below w.heap.size w w':=by
 have hl:=he.len;unfold maxLen at hl;have hv:e.partB=brk e.kind e.showB:=rfl;unfold brk at hv;have az:=fun W h=>bY W (he.later h);unfold exV at az ⊢
 by_cases hk:e.kind=1\/e.kind=2\/e.kind=3\/e.kind=8\/e.kind=9
 ·rw [if_pos hk] at hv;have HV:=Nf hv;clear hv
  rcases hk with hk|hk|hk|hk|hk
  ·have k1:(e.kind == 1)=true:=Ud;exact Uf4
  ·have k1:(e.kind == 1)=false:=Ud;have k2:(e.kind == 2)=true:=Ud;exact Uf4
  ·have k1:(e.kind == 1)=false:=Ud;have k2:(e.kind == 2)=false:=Ud;have k3:(e.kind == 3)=true:=Ud;exact Uf4
  ·have k1:(e.kind == 1)=false:=Ud;have k2:(e.kind == 2)=false:=Ud;have k3:(e.kind == 3)=false:=Ud;have k8:(e.kind == 8)=true:=Ud;exact Uf4
  ·have k1:(e.kind == 1)=false:=Ud;have k2:(e.kind == 2)=false:=Ud;have k3:(e.kind == 3)=false:=Ud;have k8:(e.kind == 8)=false:=Ud;have k9:(e.kind == 9)=true:=Ud;exact Uf4
 ·rw [if_neg hk] at hv;have HV:=Nf hv;clear hv;have k1:(e.kind == 1)=false:=Uj;have k2:(e.kind == 2)=false:=Uj;have k3:(e.kind == 3)=false:=Uj;have k8:(e.kind == 8)=false:=Uj;have k9:(e.kind == 9)=false:=Uj
  go_enter Tryz.func148,Tryz.ntmps148
  go_wp2_with (first|(go_at_call 131;refine mo (az _ Jb) fun w1 ac ak af bV=>?_;(try simp at af)))
  exact Uef
theorem Jve {α:Type} (l:List α) (k:Nat) (x:α) (h:l[k]?=some x):l.take (k+1)=l.take k ++ [x]:=by
 rw [List.take_add_one,h];rfl
theorem Jsp {e:Ex} (hf:e.formed=true) (hz:e.size<=100000) (f:Bool):∀t∈Ex.showL f e.sub,t.size<=4000000:=by
 intro t ht;rw [Ex.showL_map] at ht;obtain⟨x,hx,rfl⟩:=List.mem_map.1 ht;have h1:=Ex.showB_size x (Ex.formed_sub hf hx);obtain⟨k,hk⟩:=List.mem_iff_getElem?.1 hx;have h2:=Ex.size_sub hk;have h3:=Jkk x.kind x.showB
 split
 ·exact Ua
 ·unfold Ex.partB;omega
theorem Jcd {α:Type} {l:List α} (h:l.length=1):∃a,l = [a]:=by
 match l,h with
 | [a],_=>exact⟨a,rfl⟩
theorem Jcn {α:Type} {l:List α} (h:l.length=2):∃a b,l = [a,b]:=by
 match l,h with
 | [a,b],_=>exact⟨a,b,rfl⟩
theorem Jn6 {α:Type} {l:List α} (h:l.length=3):∃a b c,l = [a,b,c]:=by
 match l,h with
 | [a,b,c],_=>exact⟨a,b,c,rfl⟩
theorem Jbc {e:Ex} (h:e.formed=true):e.kind=1\/e.kind=2\/e.kind=3\/e.kind=4\/e.kind=5\/e.kind=6\/e.kind=7\/e.kind=8\/e.kind=9\/e.kind=10:=by
 rw [Ex.formed_eq,Bool.and_eq_true] at h;have h1:=h.1;simp only [Jl,Bool.and_eq_true] at h1;have h2:=h1.1.1.1.1.1;unfold Jw at h2
 repeat' split at h2
 all_goals first|omega|(simp at h2)
theorem Jhg (e:Ex):e.formed=true->e.size<=100000->∀(A:Option Addr) (cap:Nat) (w:World),Jt w e A cap->
  Calls Tryz.prog 131 #[exV e A cap] w fun r w'=>r = .returned (.string e.showB)/\Below w.heap.size w w':=by
 induction e using Ex.ind with
 | h e ih=>
 intro hf hz A cap w he;have hl:=he.len;unfold maxLen at hl;obtain⟨bI,aD⟩:=hl;have ai:=(Ex.formed_kind hf).1;have aL:=(Ex.formed_kind hf).2;have li:=Jsp hf hz (e.kind == 6);have aU:=Ex.showL_len (e.kind == 6) e.sub;have jP:=Ex.showB_eq e
 have fW : -2147483648<=e.n/\e.n<=2147483647\/e.kind≠1:=by
  rw [Ex.formed_eq,Bool.and_eq_true] at hf
  by_cases h1:e.kind=1
  ·left
   have hh:=hf.1;rw [h1] at hh;simp [Jl,Jw] at hh;omega
  ·exact .inr h1
 have cq:∀x∈e.sub,∀(B:Option Addr) (c:Nat) (W:World),Jt W x B c->Calls Tryz.prog 148 #[exV x B c] W fun r w'=>r = .returned (.string x.partB)/\Below W.heap.size W w':=by
  intro x hx B c W hW;have h1:=Ex.showB_size x (Ex.formed_sub hf hx);obtain⟨k,hk⟩:=List.mem_iff_getElem?.1 hx;have h2:=Ex.size_sub hk;exact Jyv Ua hW fun W' h'=>ih x hx (Ex.formed_sub hf hx) Ua B c W' h'
 have bY:∀x∈e.sub,∀(B:Option Addr) (c:Nat) (W:World),Jt W x B c->Calls Tryz.prog 131 #[exV x B c] W fun r w'=>r = .returned (.string x.showB)/\Below W.heap.size W w':=by
  intro x hx B c W hW;obtain⟨k,hk⟩:=List.mem_iff_getElem?.1 hx;have h2:=Ex.size_sub hk;exact ih x hx (Ex.formed_sub hf hx) Ua B c W hW
 have iD:∀(k:Nat) (x:Ex),e.sub[k]?=some x->(Ex.showL (e.kind == 6) e.sub)[k]?=some (if (e.kind == 6)=true then x.showB else x.partB):=by
  intro k x hk;rw [Ex.showL_map,List.getElem?_map,hk];rfl
 clear ih
 have fD:e.sub.length<=3:=by
  unfold Jw at ai
  repeat' split at ai
  all_goals first|omega|(simp at ai;omega)
 have eO:=Nf ai;clear ai;have gn:=Nf aU;clear aU;have fY:=Nf jP;clear jP;have mF:=Nf li;clear li;have HGET:=Nf iD;clear iD;generalize hT:Ex.showL (e.kind == 6) e.sub=ts at gn fY mF HGET;clear hT;have HF:=Nf hf;clear hf;unfold exV
 go_enter Tryz.func131,Tryz.ntmps131
 go_wp2_with fail
 refine Jo fun W0 ag=>?_;have ax:=Nd w W0 Uo;have bD:w.heap.size<W0.heap.size:=by rw [ag];first|omega|(simp;omega)|simp
 have k0:=Na W0 w.heap.size 0 e.kind Uc;have k1:=Nb W0 w.heap.size 1 (.int .i32 e.n) Uc;have k2:=Nb W0 w.heap.size 2 (.string e.name) Uc;clear ag;replace he:=he.later ax
 go_loopw [3,9] (fun v i wr=>∃(k:Nat),k<=e.sub.length/\i = .int .i64 k/\wr.ownsRow W0.heap.size 9 1 v k ((ts.take k).map Value.string)/\Below W0.heap.size W0 wr) (fun _ i _=>e.sub.length-(intOf i).toNat)
 case atStart=>exact⟨0,Np,rfl,Nw,Nt⟩
 case round=>
  obtain⟨k,hk,rfl,ae,ab⟩:=hrel;have hc:=Jg ab;have bu:=ab.size;have af:=lt0 w wr
  by_cases am:k<e.sub.length
  ·obtain⟨x,hx,aj,hd⟩:=Kl am;obtain⟨b,off,A',cap',rfl,c0,c1,c2,c3,hs⟩:=(he.later ab).get hx;have hg:=HGET.out k x hx;have aP:=congrArg (List.map Value.string) (Jve ts k _ hg);rw [List.map_append,List.map_cons,List.map_nil] at aP;have eZ:=Nf aP;clear aP hg hd hx
   cases h6:(e.kind == 6)
   ·rw [h6,if_neg Ul] at eZ;have hp:=cq x aj A' cap';unfold exV at hp
    go_wp2_with (first|(go_at_call 148;refine mo (hp _ (hs.later Jb)) fun w1 ac ak af bV=>?_;(try simp at af))|(at_builtin;refine Kap rfl (.tmp 21) (.tmp 24) 121 rfl W0.heap.size 9 (.string ⟨#[]⟩) 1 16 Tryz.underlying121 Zq rfl Ua u3 k ((ts.take k).map Value.string) _ 1 [.string x.partB] rfl Udk rfl rfl (fun j u hj=>U9) Uv Ua Ua U7 ?_;intro v2 w2 ao aq;have br:=aq.size;(try simp at br)))
    exact Ucw
   ·rw [h6,if_pos rfl] at eZ;have hp:=bY x aj A' cap';unfold exV at hp
    go_wp2_with (first|(go_at_call 131;refine mo (hp _ (hs.later Jb)) fun w1 ac ak af bV=>?_;(try simp at af))|(at_builtin;refine Kap rfl (.tmp 16) (.tmp 19) 121 rfl W0.heap.size 9 (.string ⟨#[]⟩) 1 16 Tryz.underlying121 Zq rfl Ua u3 k ((ts.take k).map Value.string) _ 1 [.string x.showB] rfl Udk rfl rfl (fun j u hj=>U9) Uv Ua Ua U7 ?_;intro v2 w2 ao aq;have br:=aq.size;(try simp at br)))
    exact Ucw
  ·obtain rfl:k=e.sub.length:=Ua;rw [<-gn.out,List.take_length] at ae;have xH:=Jhr e.n
   rcases Jbc HF.out with hk|hk|hk|hk|hk|hk|hk|hk|hk|hk
   ·have ai:=eO.out;rw [hk] at ai;have eb:ts.length=0:=Mp;obtain rfl:=List.length_eq_zero_iff.1 eb;clear eb ai;have hi : -2147483648<=e.n/\e.n<=2147483647:=Ua;have hv:e.showB=Zn e.n:=by rw [fY.out,hk];rfl
    have q1:(e.kind == 1)=true:=Ud;have q2:(e.kind == 2)=false:=Ud;have q4:(e.kind == 4)=false:=Ud;have q5:(e.kind == 5)=false:=Ud;have q6:(e.kind == 6)=false:=Ud;have q7:(e.kind == 7)=false:=Ud;have q8:(e.kind == 8)=false:=Ud;have q9:(e.kind == 9)=false:=Ud;have q10:(e.kind == 10)=false:=Ud;clear hk fW;have wN:=fun W=>Jtb e.n W hi.1 hi.2;have HV:=Nf hv;clear hv
    go_wp2_with (first|(go_at_call 149;refine mo (wN _) fun w1 ac ak af bV=>?_;(try simp at af)))
    exact Uef
   ·have ai:=eO.out;rw [hk] at ai;have eb:ts.length=0:=Mp;obtain rfl:=List.length_eq_zero_iff.1 eb;clear eb ai;have q1:(e.kind == 1)=false:=Ud;have q2:(e.kind == 2)=true:=Ud;have q4:(e.kind == 4)=false:=Ud;have q5:(e.kind == 5)=false:=Ud;have q6:(e.kind == 6)=false:=Ud;have q7:(e.kind == 7)=false:=Ud;have q8:(e.kind == 8)=false:=Ud;have q9:(e.kind == 9)=false:=Ud;have q10:(e.kind == 10)=false:=Ud
    cases hn:(e.n == 0)
    ·have hv:e.showB=⟨#[116,114,117,101]⟩:=Fv;exact Uc1
    ·have hv:e.showB=⟨#[102,97,108,115,101]⟩:=Fv;exact Uc1
   ·have ai:=eO.out;rw [hk] at ai;have eb:ts.length=0:=Mp;obtain rfl:=List.length_eq_zero_iff.1 eb;clear eb ai;have q1:(e.kind == 1)=false:=Ud;have q2:(e.kind == 2)=false:=Ud;have q4:(e.kind == 4)=false:=Ud;have q5:(e.kind == 5)=false:=Ud;have q6:(e.kind == 6)=false:=Ud;have q7:(e.kind == 7)=false:=Ud;have q8:(e.kind == 8)=false:=Ud;have q9:(e.kind == 9)=false:=Ud;have q10:(e.kind == 10)=false:=Ud;have hv:e.showB=e.name:=by rw [fY.out,hk];rfl
    exact Uc1
   ·have ai:=eO.out;rw [hk] at ai;have eb:ts.length=1:=Lp;obtain⟨t0,rfl⟩:=Jcd eb;clear eb ai;replace ae:wr.ownsRow W0.heap.size 9 1 u3 1 [.string t0]:=ae;obtain⟨g,gcap,rfl,eN,aG,bJ,cg,ah⟩:=Kc ae Ua;unfold maxLen at cg;have e0:=ah 0 _ rfl;have s0:=mF.out t0 Ul;clear ah ae;have q1:(e.kind == 1)=false:=Ud;have q2:(e.kind == 2)=false:=Ud;have q4:(e.kind == 4)=true:=Ud;have q5:(e.kind == 5)=false:=Ud;have q6:(e.kind == 6)=false:=Ud;have q7:(e.kind == 7)=false:=Ud;have q8:(e.kind == 8)=false:=Ud;have q9:(e.kind == 9)=false:=Ud;have q10:(e.kind == 10)=false:=Ud
    cases hn:(e.n == 2)
    ·have hv:e.showB=⟨#[45]⟩ ++ t0:=Fv;exact Uc1
    ·have hv:e.showB=⟨#[110,111,116,32]⟩ ++ t0:=Fv;exact Uc1
   ·have ai:=eO.out;rw [hk] at ai;have eb:ts.length=2:=Lp;obtain⟨t0,t1,rfl⟩:=Jcn eb;clear eb ai;replace ae:wr.ownsRow W0.heap.size 9 1 u3 2 [.string t0,.string t1]:=ae;obtain⟨g,gcap,rfl,eN,aG,bJ,cg,ah⟩:=Kc ae Ua;unfold maxLen at cg;have e0:=ah 0 _ rfl;have s0:=mF.out t0 Ul;have e1:=ah 1 _ rfl;have s1:=mF.out t1 Ul;clear ah ae;have q1:(e.kind == 1)=false:=Ud;have q2:(e.kind == 2)=false:=Ud;have q4:(e.kind == 4)=false:=Ud;have q5:(e.kind == 5)=true:=Ud;have q6:(e.kind == 6)=false:=Ud;have q7:(e.kind == 7)=false:=Ud;have q8:(e.kind == 8)=false:=Ud;have q9:(e.kind == 9)=false:=Ud;have q10:(e.kind == 10)=false:=Ud;have z2:¬9223372036854775807<t0.size+1:=Ua;have z3:¬9223372036854775807<t0.size+1+(Ja6 e.n).size:=Ua;have z4:¬9223372036854775807<t0.size+1+(Ja6 e.n).size+1:=Ua;have z5:¬9223372036854775807<t0.size+1+(Ja6 e.n).size+1+t1.size:=Ua;have hv:e.showB=t0 ++ ⟨#[32]⟩ ++ Ja6 e.n ++ ⟨#[32]⟩ ++ t1:=F9;clear hk fW;have HV:=Nf hv;clear hv
    go_wp2_with fail
    refine Jx Ug Ug (fun bj=>?_)
    repeat (quiet_step ((go_at_call 150;exact Calls.regrown_of ((Jv4 _ _).mono fun _ _ h=>⟨h.1,F5⟩))))
    refine wpQuiet_nil ?_;intro wq au;replace au:=qbo au;obtain⟨au,dA,bh⟩:=au;clear bj
    (try simp at bh)
    go_wp2_with fail
    exact Uef
   ·have ai:=eO.out;rw [hk] at ai;have eb:ts.length=3:=Lp;obtain⟨t0,t1,t2,rfl⟩:=Jn6 eb;clear eb ai;replace ae:wr.ownsRow W0.heap.size 9 1 u3 3 [.string t0,.string t1,.string t2]:=ae;obtain⟨g,gcap,rfl,eN,aG,bJ,cg,ah⟩:=Kc ae Ua;unfold maxLen at cg;have e0:=ah 0 _ rfl;have s0:=mF.out t0 Ul;have e1:=ah 1 _ rfl;have s1:=mF.out t1 Ul;have e2:=ah 2 _ rfl;have s2:=mF.out t2 Ul;clear ah ae;have q1:(e.kind == 1)=false:=Ud;have q2:(e.kind == 2)=false:=Ud;have q4:(e.kind == 4)=false:=Ud;have q5:(e.kind == 5)=false:=Ud;have q6:(e.kind == 6)=true:=Ud;have q7:(e.kind == 7)=false:=Ud;have q8:(e.kind == 8)=false:=Ud;have q9:(e.kind == 9)=false:=Ud;have q10:(e.kind == 10)=false:=Ud;have z2:¬9223372036854775807<3+t0.size:=Ua;have z3:¬9223372036854775807<3+t0.size+6:=Ua;have z4:¬9223372036854775807<3+t0.size+6+t1.size:=Ua;have z5:¬9223372036854775807<3+t0.size+6+t1.size+6:=Ua;have z6:¬9223372036854775807<3+t0.size+6+t1.size+6+t2.size:=Ua;have hv:e.showB=⟨#[105,102,32]⟩ ++ t0 ++ ⟨#[32,116,104,101,110,32]⟩ ++ t1 ++ ⟨#[32,101,108,115,101,32]⟩ ++ t2:=F9;exact Ua1
   ·have ai:=eO.out;rw [hk] at ai;have eb:ts.length=2:=Lp;obtain⟨t0,t1,rfl⟩:=Jcn eb;clear eb ai;replace ae:wr.ownsRow W0.heap.size 9 1 u3 2 [.string t0,.string t1]:=ae;obtain⟨g,gcap,rfl,eN,aG,bJ,cg,ah⟩:=Kc ae Ua;unfold maxLen at cg;have e0:=ah 0 _ rfl;have s0:=mF.out t0 Ul;have e1:=ah 1 _ rfl;have s1:=mF.out t1 Ul;clear ah ae;have q1:(e.kind == 1)=false:=Ud;have q2:(e.kind == 2)=false:=Ud;have q4:(e.kind == 4)=false:=Ud;have q5:(e.kind == 5)=false:=Ud;have q6:(e.kind == 6)=false:=Ud;have q7:(e.kind == 7)=true:=Ud;have q8:(e.kind == 8)=false:=Ud;have q9:(e.kind == 9)=false:=Ud;have q10:(e.kind == 10)=false:=Ud;have z2:¬9223372036854775807<t0.size+4:=Ua;have z3:¬9223372036854775807<t0.size+4+t1.size:=Ua;have hv:e.showB=t0 ++ ⟨#[32,45,62,32]⟩ ++ t1:=F9;exact Ua1
   ·have ai:=eO.out;rw [hk] at ai;have eb:ts.length=1:=Lp;obtain⟨t0,rfl⟩:=Jcd eb;clear eb ai;replace ae:wr.ownsRow W0.heap.size 9 1 u3 1 [.string t0]:=ae;obtain⟨g,gcap,rfl,eN,aG,bJ,cg,ah⟩:=Kc ae Ua;unfold maxLen at cg;have e0:=ah 0 _ rfl;have s0:=mF.out t0 Ul;clear ah ae;have q1:(e.kind == 1)=false:=Ud;have q2:(e.kind == 2)=false:=Ud;have q4:(e.kind == 4)=false:=Ud;have q5:(e.kind == 5)=false:=Ud;have q6:(e.kind == 6)=false:=Ud;have q7:(e.kind == 7)=false:=Ud;have q8:(e.kind == 8)=true:=Ud;have q9:(e.kind == 9)=false:=Ud;have q10:(e.kind == 10)=false:=Ud;have z2:¬9223372036854775807<t0.size+6:=Ua;have z3:¬9223372036854775807<t0.size+6+e.name.size:=Ua;have hv:e.showB=t0 ++ ⟨#[32,119,104,101,110,32]⟩ ++ e.name:=F9;exact Ua1
   ·have ai:=eO.out;rw [hk] at ai;have eb:ts.length=1:=Lp;obtain⟨t0,rfl⟩:=Jcd eb;clear eb ai;replace ae:wr.ownsRow W0.heap.size 9 1 u3 1 [.string t0]:=ae;obtain⟨g,gcap,rfl,eN,aG,bJ,cg,ah⟩:=Kc ae Ua;unfold maxLen at cg;have e0:=ah 0 _ rfl;have s0:=mF.out t0 Ul;clear ah ae;have q1:(e.kind == 1)=false:=Ud;have q2:(e.kind == 2)=false:=Ud;have q4:(e.kind == 4)=false:=Ud;have q5:(e.kind == 5)=false:=Ud;have q6:(e.kind == 6)=false:=Ud;have q7:(e.kind == 7)=false:=Ud;have q8:(e.kind == 8)=false:=Ud;have q9:(e.kind == 9)=true:=Ud;have q10:(e.kind == 10)=false:=Ud;have z2:¬9223372036854775807<t0.size+8:=Ua;have z3:¬9223372036854775807<t0.size+8+e.name.size:=Ua;have hv:e.showB=t0 ++ ⟨#[32,117,110,108,101,115,115,32]⟩ ++ e.name:=F9;exact Ua1
   ·have ai:=eO.out;rw [hk] at ai;have eb:ts.length=2:=Lp;obtain⟨t0,t1,rfl⟩:=Jcn eb;clear eb ai;replace ae:wr.ownsRow W0.heap.size 9 1 u3 2 [.string t0,.string t1]:=ae;obtain⟨g,gcap,rfl,eN,aG,bJ,cg,ah⟩:=Kc ae Ua;unfold maxLen at cg;have e0:=ah 0 _ rfl;have s0:=mF.out t0 Ul;have e1:=ah 1 _ rfl;have s1:=mF.out t1 Ul;clear ah ae;have q1:(e.kind == 1)=false:=Ud;have q2:(e.kind == 2)=false:=Ud;have q4:(e.kind == 4)=false:=Ud;have q5:(e.kind == 5)=false:=Ud;have q6:(e.kind == 6)=false:=Ud;have q7:(e.kind == 7)=false:=Ud;have q8:(e.kind == 8)=false:=Ud;have q9:(e.kind == 9)=false:=Ud;have q10:(e.kind == 10)=true:=Ud;have z2:¬9223372036854775807<6+e.name.size:=Ua;have z3:¬9223372036854775807<6+e.name.size+1:=Ua;have z4:¬9223372036854775807<6+e.name.size+1+t0.size:=Ua;have z5:¬9223372036854775807<6+e.name.size+1+t0.size+1:=Ua;have z6:¬9223372036854775807<6+e.name.size+1+t0.size+1+t1.size:=Ua;have hv:e.showB=⟨#[109,101,114,103,101,32]⟩ ++ e.name ++ ⟨#[32]⟩ ++ t0 ++ ⟨#[32]⟩ ++ t1:=F9;exact Ua1
theorem Jqk (e:Ex) (A:Option Addr) (cap:Nat) (w:World) (he:Jt w e A cap) :
  Calls Tryz.prog 146 #[exV e A cap] w fun r w'=>r = .returned (.bool e.literal)/\Below w.heap.size w w':=by
 have hl:=he.len;unfold maxLen at hl;obtain⟨bI,aD⟩:=hl;have hv:e.literal=if e.right=0 then(if e.kind=4/\e.n=1 then(match e.sub with|x :: _=>x.kind == 1 | []=>false) else(e.kind == 1 || e.kind == 2)) else false:=rfl;have aB:=fun W h=>Jnc e A cap W (he.later h);unfold exV at aB ⊢
 cases h1:(e.right != 0)
 case true=>
  rw [if_neg (by intro h;rw [h] at h1;simp at h1)] at hv;have HV:=Nf hv;clear hv
  go_enter Tryz.func146,Tryz.ntmps146
  go_wp2_with (first|(go_at_call 145;refine mo (aB _ Jb) fun w1 ac ak af bV=>?_;(try simp at af)))
  go_ret;exact⟨Jk HV.out.symm,Jb⟩
 have eV:=Jei h1;rw [if_pos eV] at hv
 cases h2:(e.kind == 4)
 case false=>
  rw [if_neg (by rintro⟨h,_⟩;rw [h] at h2;simp at h2)] at hv
  cases h3:(e.kind == 1)
  case true=>
   rw [h3,Bool.true_or] at hv;exact Uf0
  rw [h3,Bool.false_or] at hv;exact Uf0
 have iA:=Jbf h2
 cases h4:(e.n == 1)
 case false=>
  rw [if_neg (by rintro⟨_,h⟩;rw [h] at h4;simp at h4),iA] at hv;clear eV iA;have h5:(e.kind == 1)=false:=by rw [Jbf h2];rfl
  replace hv:e.literal=false:=by rw [hv];rfl
  have HV:=Nf hv;clear hv
  go_enter Tryz.func146,Tryz.ntmps146
  go_wp2_with (first|(go_at_call 145;refine mo (aB _ Jb) fun w1 ac ak af bV=>?_;(try simp at af)))
  go_ret;exact⟨Jk (by rw [HV.out,Jbf h2];rfl),Jb⟩
 rw [if_pos ⟨iA,Jbf h4⟩] at hv;have hf:=(Ex.right_zero.1 eV).2.2;rw [Ex.formed_eq,Jl,iA] at hf
 have ai:e.sub.length=1:=by
  simp only [Jw,Bool.and_eq_true] at hf;have:=Jbf hf.1.1.1.1.1.2;simp at this;omega
 clear hf;have hx:e.sub[0]?=some e.sub[0]:=Ng Ua;generalize e.sub[0]=x at hx
 have aT:e.sub = [x]:=by
  generalize e.sub=l at ai hx
  match l,ai,hx with
  | [y],_,h=>simp at h;rw [h]
 rw [aT] at hv;obtain⟨b,off,A',cap',rfl,c0,c1,c2,c3,hs⟩:=he.get hx;have ax:=Nu c0;dsimp only at ax;have hb0':b<w.heap.size+1:=Ua;have hlen':0<e.sub.length:=Ua;simp only [Nat.zero_mul,Nat.add_zero] at c0;clear eV iA hx ai c1 c2 c3;have HS:=Nf aT;clear aT;have HV:=Nf hv;clear hv
 go_enter Tryz.func146,Tryz.ntmps146
 go_wp2_with (first|(go_at_call 145;refine mo (aB _ Jb) fun w1 ac ak af bV=>?_;(try simp at af)))
 go_ret;exact⟨Jk HV.out.symm,Jb⟩
theorem Je0 (v:Va) (own:Bool) (w:World) :
  Calls Tryz.prog 144 #[vaV v,.bool own] w fun r w'=>r = .returned (.bool (Ke v own))/\Below w.heap.size w w':=by
 unfold Ke vaV
 cases h1:Kz v.name
 ·go_enter Tryz.func144,Tryz.ntmps144
  go_wp2_with (first|(go_at_call 143;refine mo (Qt _ _) fun w1 ac ak af bV=>?_;(try simp at af)))
  all_goals (go_ret;exact⟨Jk rfl,Jb⟩)
 cases h2:Kz v.cn <;> cases own <;>
 ·go_enter Tryz.func144,Tryz.ntmps144
  go_wp2_with (first|(go_at_call 143;refine mo (Qt _ _) fun w1 ac ak af bV=>?_;(try simp at af)))
  all_goals (first|(exfalso;simp_all;done)|(go_ret;exact⟨Jk (by simp_all),Jb⟩)|go_ways)
def Jch (q:Qe):Bool:=if q.delay=1 then q.first.literal else if q.delay=0\/q.delay=2 then q.first.same Ex.zero else false
theorem Juw (q:Qe):eqB q=(Kz q.name && q.e.right == 0 && Jch q):=rfl
theorem Jvg (w:World):Jt w Ex.zero none 0:=by simp [Jt,Ex.zero]
theorem Ju2 (p:Pr) (a:PrA) (w:World) (hp:Kr w p a) :
  Calls Tryz.prog 128 #[prV p a] w fun r w'=>r = .returned (.bool (Qw p))/\Below w.heap.size w w':=by
 have bI:=hp.ins.len;have aD:=hp.outs.len;have fD:=hp.locals.len;have cG:=hp.eqs.len;unfold maxLen at bI aD fD cG;obtain⟨bI,iw⟩:=bI;obtain⟨aD,cI⟩:=aD;obtain⟨fD,kV⟩:=fD;obtain⟨cG,sS⟩:=cG;obtain⟨A1,c1,A2,c2,A3,c3,A4,c4⟩:=a;unfold prV;dsimp only at *
 go_enter Tryz.func128,Tryz.ntmps128
 go_wp2_with (first|(go_at_call 143;refine mo (Qt _ _) fun w1 ac ak af bV=>?_;(try simp at af)))
 refine Jo fun W0 ag=>?_;have ax:=Nd w W0 Uo;have bD:w.heap.size<W0.heap.size:=by rw [ag];first|omega|(simp;omega)
 have k1:=Nb W0 w.heap.size 1 (.slice A1 p.ins.length c1) Uc;have k2:=Nb W0 w.heap.size 2 (.slice A2 p.outs.length c2) Uc;have k3:=Nb W0 w.heap.size 3 (.slice A3 p.locals.length c3) Uc;have k4:=Nb W0 w.heap.size 4 (.slice A4 p.eqs.length c4) Uc;clear ag;have pp:=hp.later ax;obtain⟨ii,gL,ip,bT⟩:=pp;dsimp only at ii gL ip bT;have hl:(Kz p.name && (p.ins.drop 0).all (Ke · false))=(Kz p.name && p.ins.all (Ke · false)):=rfl;have HL:=Nf hl;clear hl
 go_loopw [3,18] (fun o i wr=>∃(k:Nat) (b1:Bool),k<=p.ins.length/\i = .int .i64 k/\o = .bool b1/\(b1 && (p.ins.drop k).all (Ke · false))=(Kz p.name && p.ins.all (Ke · false))/\Below W0.heap.size W0 wr) (fun _ i _=>p.ins.length-(intOf i).toNat)
 case atStart=>exact⟨0,_,Np,rfl,rfl,HL.out,F6⟩
 case round=>
 obtain⟨k,b1,hk,rfl,rfl,aa,ab⟩:=hrel;have hc:=Jg ab;have bu:=ab.size
 by_cases am:k<p.ins.length
 ·obtain⟨x,hx,-,hd⟩:=Kl am;obtain⟨b,off,rfl,aH,⟨d0,d1,d2,d3⟩⟩:=(ii.later ab).get hx;rw [hd,List.all_cons] at aa;have dE:=fun W=>Je0 x false W;unfold vaV at dE
  cases b1
  ·exact Ubp
  ·exact Ufw
 have bk:k=p.ins.length:=Ua;rw [bk,Nn,List.all_nil,Bool.and_true] at aa;clear bk;have HX1:=Nf aa;clear aa
 go_wp2_with fail
 have hl:(b1 && (p.outs.drop 0).all (Ke · false))=(b1 && p.outs.all (Ke · false)):=rfl;have HL:=Nf hl;clear hl
 go_loopw [3,31] (fun o i wr=>∃(k:Nat) (b2:Bool),k<=p.outs.length/\i = .int .i64 k/\o = .bool b2/\(b2 && (p.outs.drop k).all (Ke · false))=(b1 && p.outs.all (Ke · false))/\Below W0.heap.size W0 wr) (fun _ i _=>p.outs.length-(intOf i).toNat)
 case atStart=>exact⟨0,_,Np,rfl,rfl,HL.out,F6⟩
 case round=>
 obtain⟨k,b2,hk,rfl,rfl,aa,ab⟩:=hrel;have hc:=Jg ab;have bu:=ab.size
 by_cases am:k<p.outs.length
 ·obtain⟨x,hx,-,hd⟩:=Kl am;obtain⟨b,off,rfl,aH,⟨d0,d1,d2,d3⟩⟩:=(gL.later ab).get hx;rw [hd,List.all_cons] at aa;have dE:=fun W=>Je0 x false W;unfold vaV at dE
  cases b2
  ·exact Ubp
  ·exact Ufw
 have bk:k=p.outs.length:=Ua;rw [bk,Nn,List.all_nil,Bool.and_true] at aa;clear bk;have HX2:=Nf aa;clear aa
 go_wp2_with fail
 have hl:(b2 && (p.locals.drop 0).all (Ke · true))=(b2 && p.locals.all (Ke · true)):=rfl;have HL:=Nf hl;clear hl
 go_loopw [3,44] (fun o i wr=>∃(k:Nat) (b3:Bool),k<=p.locals.length/\i = .int .i64 k/\o = .bool b3/\(b3 && (p.locals.drop k).all (Ke · true))=(b2 && p.locals.all (Ke · true))/\Below W0.heap.size W0 wr) (fun _ i _=>p.locals.length-(intOf i).toNat)
 case atStart=>exact⟨0,_,Np,rfl,rfl,HL.out,F6⟩
 case round=>
 obtain⟨k,b3,hk,rfl,rfl,aa,ab⟩:=hrel;have hc:=Jg ab;have bu:=ab.size
 by_cases am:k<p.locals.length
 ·obtain⟨x,hx,-,hd⟩:=Kl am;obtain⟨b,off,rfl,aH,⟨d0,d1,d2,d3⟩⟩:=(ip.later ab).get hx;rw [hd,List.all_cons] at aa;have dE:=fun W=>Je0 x true W;unfold vaV at dE
  cases b3
  ·exact Ubp
  ·rw [Bool.true_and] at aa;have HR:=Nf aa;clear aa hd hx
   go_wp2_with (first|(go_at_call 144;refine mo (dE _) fun w1 ac ak af bV=>?_;(try simp at af)))
   go_roundw
   case rel=>exact⟨k+1,Ke x true,Ua,Up,rfl,HR.out,Jb⟩
   case measure=>simp [intOf];omega
 have bk:k=p.locals.length:=Ua;rw [bk,Nn,List.all_nil,Bool.and_true] at aa;clear bk;have HX3:=Nf aa;clear aa
 have hl:(b3 && (p.eqs.drop 0).all eqB)=Qw p:=by
  rw [HX3.out,HX2.out,HX1.out];rfl
 have HL:=Nf hl;clear hl
 go_wp2_with fail
 go_loopw [3,57] (fun o i wr=>∃(k:Nat) (b4:Bool),k<=p.eqs.length/\i = .int .i64 k/\o = .bool b4/\(b4 && (p.eqs.drop k).all eqB)=Qw p/\Below W0.heap.size W0 wr) (fun _ i _=>p.eqs.length-(intOf i).toNat)
 case atStart=>exact⟨0,_,Np,rfl,rfl,HL.out,F6⟩
 case round=>
 obtain⟨k,b4,hk,rfl,rfl,aa,ab⟩:=hrel;have hc:=Jg ab;have bu:=ab.size
 by_cases am:k<p.eqs.length
 ·obtain⟨q,hx,-,hd⟩:=Kl am;obtain⟨b,off,B1,n1,B2,n2,rfl,aH,⟨g0,g1,g2,g3,g4,g5,g6,g7,g8,g9,s1,s2⟩⟩:=(bT.later ab).get hx;rw [hd,List.all_cons,Juw] at aa;have aB:=fun W h=>Jnc q.e B2 n2 W (s2.later h);have cU:=fun W h=>Jqk q.first B1 n1 W (s1.later h);have bF:=fun W h=>Jw3 q.first Ex.zero B1 n1 none 0 W (s1.later h) (Jvg _);unfold exV at aB cU bF;unfold Ex.zero at bF;simp only [Ex.kind,Ex.n,Ex.name,Ex.sub,Nm] at bF
  by_cases q1:q.delay=1
  ·have q1':(q.delay == 1)=true:=by simp [q1]
   have ek:Jch q=q.first.literal:=by unfold Jch;rw [if_pos q1]
   clear q1;rw [ek] at aa
   cases b4
   ·exact Ugm
   cases hn:Kz q.name
   ·rw [hn] at aa;exact Ugm
   cases hr:(q.e.right == 0)
   ·rw [hn,hr] at aa;exact Ugm
   rw [hn,hr] at aa;replace aa:(q.first.literal && (List.drop (k+1) p.eqs).all eqB)=Qw p:=Mb;have HR:=Nf aa;clear aa hd hx
   go_wp2_with (first|(go_at_call 143;refine mo (Qt _ _) fun w1 ac ak af bV=>?_;(try simp at af))|(go_at_call 145;refine mo (aB _ Jb) fun w1 ac ak af bV=>?_;(try simp at af))|(go_at_call 146;refine mo (cU _ Jb) fun w1 ac ak af bV=>?_;(try simp at af))|(go_at_call 147;refine mo (bF _ Jb) fun w1 ac ak af bV=>?_;(try simp at af)))
   exact Ueg
  by_cases q0:q.delay=0
  ·have q0':(q.delay == 0)=true:=by simp [q0]
   have ek:Jch q=q.first.same Ex.zero:=by unfold Jch;rw [if_neg q1,if_pos (.inl q0)]
   clear q0;exact By
  by_cases q2:q.delay=2
  ·have q2':(q.delay == 2)=true:=by simp [q2]
   have ek:Jch q=q.first.same Ex.zero:=by unfold Jch;rw [if_neg q1,if_pos (.inr q2)]
   clear q2;exact By
  have ek:Jch q=false:=by unfold Jch;rw [if_neg q1,if_neg Ua]
  rw [ek] at aa;simp only [Bool.and_false,Bool.false_and] at aa
  cases b4
  ·exact Ufo
  cases hn:Kz q.name
  ·exact Ufo
  cases hr:(q.e.right == 0)
  ·exact Ufo
  ·exact Ufo
 have bk:k=p.eqs.length:=Ua;rw [bk,Nn,List.all_nil,Bool.and_true] at aa;have HR:=Nf aa;clear aa bk
 go_wp2_with fail
 go_ret;exact⟨Jk HR.out,Jb⟩
theorem Jpg (v:Va) (hs:Jb8 v) (w:World):Calls Tryz.prog 130 #[vaV v] w fun r w'=>r = .returned (.string (Jb9 v))/\Below w.heap.size w w':=by
 obtain⟨h1,h2⟩:=hs;unfold vaV
 by_cases c1:v.ck=1 <;> by_cases c2:v.ck=2 <;> by_cases c3:v.type=2 <;> first|omega |
 ·have hv:Jb9 v=Jb9 v:=rfl;rw (occs:= .pos [2]) [Jb9] at hv
  first|rw [if_pos c1] at hv|rw [if_neg c1,if_pos c2] at hv|rw [if_neg c1,if_neg c2] at hv
  first|rw [if_pos c3] at hv|rw [if_neg c3] at hv
  have HV:=Nf hv;clear hv
  go_enter Tryz.func130,Tryz.ntmps130
  go_wp2_with fail
  exact Uef
theorem Jpo (l:List Va) (A:Option Addr) (cap:Nat) (hs:∀v∈l,Jb8 v) (hn:l.length<=1000000) (w:World) (hl:Ju w l A cap) :
  Calls Tryz.prog 129 #[.slice A l.length cap] w fun r w'=>r = .returned (.string (Y9 l))/\Below w.heap.size w w':=by
 have aD:=hl.len;unfold maxLen at aD;obtain⟨fD,cG⟩:=aD;have cE:=Jcl l hs 0 ⟨#[40]⟩;have HV:=Nf (show Y9 l=Yr 0 ⟨#[40]⟩ l ++ ⟨#[41]⟩ from rfl)
 have hz:(Yr 0 ⟨#[40]⟩ l).size<=100000000:=by
  simp only [Ko,List.size_toArray,Nl,Nm] at cE;exact Ua
 clear cE;generalize hG:Yr 0 ⟨#[40]⟩ l=G at HV hz;have HG:=Nf hG;clear hG
 go_enter Tryz.func129,Tryz.ntmps129
 go_wp2_with fail
 go_loopw [3,8] (fun o i wr=>∃(k:Nat) (s:ByteArray),k<=l.length/\i = .int .i64 k/\o = .string s/\s.size<=1+62 * k/\Yr k s (l.drop k)=G/\Below w.heap.size w wr) (fun _ i _=>l.length-(intOf i).toNat)
 case atStart=>exact⟨0,⟨#[40]⟩,Np,rfl,rfl,Ux,HG.out,Nt⟩
 case round=>
  obtain⟨k,s,hk,rfl,rfl,rV,aa,ab⟩:=hrel
  by_cases am:k<l.length
  ·have aj:l[k]∈l:=Nj am;have hx:l[k]?=some l[k]:=Ng am;have hd:l.drop k=l[k] :: l.drop (k+1):=No am;generalize l[k]=x at hx hd aj;obtain⟨b,off,rfl,aH,⟨d0,d1,d2,d3⟩⟩:=(hl.later ab).get hx;rw [hd,Yr] at aa;have mn:=hs x aj;have hds:=Jc9 mn;have eA:=fun W=>Jpg x mn W;unfold vaV at eA;clear hd hx
   rcases Nat.eq_zero_or_pos k with h0|h0
   ·subst h0;rw [if_neg Ua] at aa;have HR:=Nf aa;clear aa;simp only [Nat.zero_mul,Nat.add_zero] at d0 d1 d2 d3
    go_wp2_with (first|(go_at_call 130;refine mo (eA _) fun w1 ac ak af bV=>?_;(try simp at af)))
    exact Ucu
   ·rw [if_pos h0] at aa;have HR:=Nf aa;clear aa;have h0':(0:Int)<k:=Ua;exact Uf2
  ·obtain rfl:k=l.length:=Ua;rw [Nn,Yr] at aa;have HR:=Nf aa;clear aa
   go_wp2_with fail
   go_ret;exact⟨Kk (by rw [HV.out,<-HR.out]),Jb⟩
end Go.Proofs.YtknfcamdfdfoeaaGreatDoor
