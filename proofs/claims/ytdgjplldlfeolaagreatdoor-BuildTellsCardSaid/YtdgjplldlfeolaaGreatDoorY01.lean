/- Lemmas. -/
import Derived.Test.YtdgjplldlfeolaaGreatDoorMac
import Derived.Test.YtdgjplldlfeolaaGreatDoorY00
import Derived.Laws.RangeString
import Derived.Laws.RangeAny
import Derived.Test.YtdgjplldlfeolaaGreatDoorRows
set_option linter.unusedVariables false
set_option linter.unusedSimpArgs false
set_option maxRecDepth 100000
set_option maxHeartbeats 64000000
namespace Go.Proofs.YtdgjplldlfeolaaGreatDoor
open Go.RowKit Go.Sort
theorem Jve {α:Type} (l:List α) (k:Nat) (x:α) (h:l[k]?=some x):l.take (k+1)=l.take k ++ [x]:=by
 rw [List.take_add_one,h];rfl
theorem Jsp {e:Ex} (hf:e.formed=true) (hz:e.size<=100000) (f:Bool):∀t∈Ex.showL f e.sub,t.size<=4000000:=by
 intro t ht;rw [Ex.showL_map] at ht;obtain⟨x,hx,rfl⟩:=List.mem_map.1 ht;have h1:=Ex.showB_size x (Ex.formed_sub hf hx);obtain⟨k,hk⟩:=List.mem_iff_getElem?.1 hx;have h2:=Ex.size_sub hk;have h3:=Jkk x.kind x.showB
 split
 ·exact Ua
 ·unfold Ex.partB;omega
theorem Jcd {α:Type} {l:List α} (h:l.length=1):∃a,l = [a]:=by
 match l,h with
 | [a],_=>exact⟨a,rfl⟩
theorem Jcn {α:Type} {l:List α} (h:l.length=2):∃a b,l = [a,b]:=by
 match l,h with
 | [a,b],_=>exact⟨a,b,rfl⟩
theorem Jn6 {α:Type} {l:List α} (h:l.length=3):∃a b c,l = [a,b,c]:=by
 match l,h with
 | [a,b,c],_=>exact⟨a,b,c,rfl⟩
theorem Jbc {e:Ex} (h:e.formed=true):e.kind=1\/e.kind=2\/e.kind=3\/e.kind=4\/e.kind=5\/e.kind=6\/e.kind=7\/e.kind=8\/e.kind=9\/e.kind=10:=by
 rw [Ex.formed_eq,Bool.and_eq_true] at h;have h1:=h.1;simp only [Jl,Bool.and_eq_true] at h1;have h2:=h1.1.1.1.1.1;unfold Jw at h2
 repeat' split at h2
 all_goals first|omega|(simp at h2)
theorem Jhg (e:Ex):e.formed=true->e.size<=100000->∀(A:Option Addr) (cap:Nat) (w:World),Jt w e A cap->
  Calls Tryz.prog 25 #[exV e A cap] w fun r w'=>r = .returned (.string e.showB)/\Below w.heap.size w w':=by
 induction e using Ex.ind with
 | h e ih=>
 intro hf hz A cap w he;have hl:=he.len;unfold maxLen at hl;obtain⟨bI,aD⟩:=hl;have ai:=(Ex.formed_kind hf).1;have aL:=(Ex.formed_kind hf).2;have li:=Jsp hf hz (e.kind == 6);have aU:=Ex.showL_len (e.kind == 6) e.sub;have jP:=Ex.showB_eq e
 have fW : -2147483648<=e.n/\e.n<=2147483647\/e.kind≠1:=by
  rw [Ex.formed_eq,Bool.and_eq_true] at hf
  by_cases h1:e.kind=1
  ·left
   have hh:=hf.1;rw [h1] at hh;simp [Jl,Jw] at hh;omega
  ·exact .inr h1
 have cq:∀x∈e.sub,∀(B:Option Addr) (c:Nat) (W:World),Jt W x B c->Calls Tryz.prog 51 #[exV x B c] W fun r w'=>r = .returned (.string x.partB)/\Below W.heap.size W w':=by
  intro x hx B c W hW;have h1:=Ex.showB_size x (Ex.formed_sub hf hx);obtain⟨k,hk⟩:=List.mem_iff_getElem?.1 hx;have h2:=Ex.size_sub hk;exact Jyv Ua hW fun W' h'=>ih x hx (Ex.formed_sub hf hx) Ua B c W' h'
 have bY:∀x∈e.sub,∀(B:Option Addr) (c:Nat) (W:World),Jt W x B c->Calls Tryz.prog 25 #[exV x B c] W fun r w'=>r = .returned (.string x.showB)/\Below W.heap.size W w':=by
  intro x hx B c W hW;obtain⟨k,hk⟩:=List.mem_iff_getElem?.1 hx;have h2:=Ex.size_sub hk;exact ih x hx (Ex.formed_sub hf hx) Ua B c W hW
 have iD:∀(k:Nat) (x:Ex),e.sub[k]?=some x->(Ex.showL (e.kind == 6) e.sub)[k]?=some (if (e.kind == 6)=true then x.showB else x.partB):=by
  intro k x hk;rw [Ex.showL_map,List.getElem?_map,hk];rfl
 clear ih
 have fD:e.sub.length<=3:=by
  unfold Jw at ai
  repeat' split at ai
  all_goals first|omega|(simp at ai;omega)
 have eO:=Nf ai;clear ai;have gn:=Nf aU;clear aU;have fY:=Nf jP;clear jP;have mF:=Nf li;clear li;have HGET:=Nf iD;clear iD;generalize hT:Ex.showL (e.kind == 6) e.sub=ts at gn fY mF HGET;clear hT;have HF:=Nf hf;clear hf;unfold exV
 go_enter Tryz.func25,Tryz.ntmps25
 go_wp2_with fail
 refine Jo fun W0 ag=>?_;have ax:=Nd w W0 Uz;have bD:w.heap.size<W0.heap.size:=by rw [ag];first|omega|(simp;omega)|simp
 have k0:=Na W0 w.heap.size 0 e.kind Uf;have k1:=Nb W0 w.heap.size 1 (.int .i32 e.n) Uf;have k2:=Nb W0 w.heap.size 2 (.string e.name) Uf;clear ag;replace he:=he.later ax
 go_loopw [3,9] (fun v i wr=>∃(k:Nat),k<=e.sub.length/\i = .int .i64 k/\wr.ownsRow W0.heap.size 9 1 v k ((ts.take k).map Value.string)/\Below W0.heap.size W0 wr) (fun _ i _=>e.sub.length-(intOf i).toNat)
 case atStart=>exact⟨0,Np,rfl,Nw,Nt⟩
 case round=>
  obtain⟨k,hk,rfl,ae,ab⟩:=hrel;have hc:=Jg ab;have bu:=ab.size;have af:=lt0 w wr
  by_cases am:k<e.sub.length
  ·obtain⟨x,hx,aj,hd⟩:=Kl am;obtain⟨b,off,A',cap',rfl,c0,c1,c2,c3,hs⟩:=(he.later ab).get hx;have hg:=HGET.out k x hx;have aP:=congrArg (List.map Value.string) (Jve ts k _ hg);rw [List.map_append,List.map_cons,List.map_nil] at aP;have eZ:=Nf aP;clear aP hg hd hx
   cases h6:(e.kind == 6)
   ·rw [h6,if_neg Uh] at eZ;have hp:=cq x aj A' cap';unfold exV at hp
    go_wp2_with (first|(go_at_call 51;refine mo (hp _ (hs.later Jb)) fun w1 ac ak af bV=>?_;(try simp at af))|(at_builtin;refine Kap rfl (.tmp 21) (.tmp 24) 119 rfl W0.heap.size 9 (.string ⟨#[]⟩) 1 16 Tryz.underlying119 Zq rfl Ua u3 k ((ts.take k).map Value.string) _ 1 [.string x.partB] rfl Uca rfl rfl (fun j u hj=>Lu) Vg Ua Ua Ly ?_;intro v2 w2 ao aq;have br:=aq.size;(try simp at br)))
    exact Ubm
   ·rw [h6,if_pos rfl] at eZ;have hp:=bY x aj A' cap';unfold exV at hp
    go_wp2_with (first|(go_at_call 25;refine mo (hp _ (hs.later Jb)) fun w1 ac ak af bV=>?_;(try simp at af))|(at_builtin;refine Kap rfl (.tmp 16) (.tmp 19) 119 rfl W0.heap.size 9 (.string ⟨#[]⟩) 1 16 Tryz.underlying119 Zq rfl Ua u3 k ((ts.take k).map Value.string) _ 1 [.string x.showB] rfl Uca rfl rfl (fun j u hj=>Lu) Vg Ua Ua Ly ?_;intro v2 w2 ao aq;have br:=aq.size;(try simp at br)))
    exact Ubm
  ·obtain rfl:k=e.sub.length:=Ua;rw [<-gn.out,List.take_length] at ae;have xH:=Jhr e.n
   rcases Jbc HF.out with hk|hk|hk|hk|hk|hk|hk|hk|hk|hk
   ·have ai:=eO.out;rw [hk] at ai;have eb:ts.length=0:=Mn;obtain rfl:=List.length_eq_zero_iff.1 eb;clear eb ai;have hi : -2147483648<=e.n/\e.n<=2147483647:=Ua;have hv:e.showB=Zn e.n:=by rw [fY.out,hk];rfl
    have q1:(e.kind == 1)=true:=Uk;have q2:(e.kind == 2)=false:=Uk;have q4:(e.kind == 4)=false:=Uk;have q5:(e.kind == 5)=false:=Uk;have q6:(e.kind == 6)=false:=Uk;have q7:(e.kind == 7)=false:=Uk;have q8:(e.kind == 8)=false:=Uk;have q9:(e.kind == 9)=false:=Uk;have q10:(e.kind == 10)=false:=Uk;clear hk fW;have wN:=fun W=>Jtb e.n W hi.1 hi.2;have HV:=Nf hv;clear hv
    go_wp2_with (first|(go_at_call 52;refine mo (wN _) fun w1 ac ak af bV=>?_;(try simp at af)))
    go_ret;exact⟨Kk HV.out.symm,Jb⟩
   ·have ai:=eO.out;rw [hk] at ai;have eb:ts.length=0:=Mn;obtain rfl:=List.length_eq_zero_iff.1 eb;clear eb ai;have q1:(e.kind == 1)=false:=Uk;have q2:(e.kind == 2)=true:=Uk;have q4:(e.kind == 4)=false:=Uk;have q5:(e.kind == 5)=false:=Uk;have q6:(e.kind == 6)=false:=Uk;have q7:(e.kind == 7)=false:=Uk;have q8:(e.kind == 8)=false:=Uk;have q9:(e.kind == 9)=false:=Uk;have q10:(e.kind == 10)=false:=Uk
    cases hn:(e.n == 0)
    ·have hv:e.showB=⟨#[116,114,117,101]⟩:=Fl;exact Ubt
    ·have hv:e.showB=⟨#[102,97,108,115,101]⟩:=Fl;exact Ubt
   ·have ai:=eO.out;rw [hk] at ai;have eb:ts.length=0:=Mn;obtain rfl:=List.length_eq_zero_iff.1 eb;clear eb ai;have q1:(e.kind == 1)=false:=Uk;have q2:(e.kind == 2)=false:=Uk;have q4:(e.kind == 4)=false:=Uk;have q5:(e.kind == 5)=false:=Uk;have q6:(e.kind == 6)=false:=Uk;have q7:(e.kind == 7)=false:=Uk;have q8:(e.kind == 8)=false:=Uk;have q9:(e.kind == 9)=false:=Uk;have q10:(e.kind == 10)=false:=Uk;have hv:e.showB=e.name:=by rw [fY.out,hk];rfl
    exact Ubt
   ·have ai:=eO.out;rw [hk] at ai;have eb:ts.length=1:=Ld;obtain⟨t0,rfl⟩:=Jcd eb;clear eb ai;replace ae:wr.ownsRow W0.heap.size 9 1 u3 1 [.string t0]:=ae;obtain⟨g,gcap,rfl,eN,aG,bJ,cg,ah⟩:=Kc ae Ua;unfold maxLen at cg;have e0:=ah 0 _ rfl;have s0:=mF.out t0 Uh;clear ah ae;have q1:(e.kind == 1)=false:=Uk;have q2:(e.kind == 2)=false:=Uk;have q4:(e.kind == 4)=true:=Uk;have q5:(e.kind == 5)=false:=Uk;have q6:(e.kind == 6)=false:=Uk;have q7:(e.kind == 7)=false:=Uk;have q8:(e.kind == 8)=false:=Uk;have q9:(e.kind == 9)=false:=Uk;have q10:(e.kind == 10)=false:=Uk
    cases hn:(e.n == 2)
    ·have hv:e.showB=⟨#[45]⟩ ++ t0:=Fl;exact Ubt
    ·have hv:e.showB=⟨#[110,111,116,32]⟩ ++ t0:=Fl;exact Ubt
   ·have ai:=eO.out;rw [hk] at ai;have eb:ts.length=2:=Ld;obtain⟨t0,t1,rfl⟩:=Jcn eb;clear eb ai;replace ae:wr.ownsRow W0.heap.size 9 1 u3 2 [.string t0,.string t1]:=ae;obtain⟨g,gcap,rfl,eN,aG,bJ,cg,ah⟩:=Kc ae Ua;unfold maxLen at cg;have e0:=ah 0 _ rfl;have s0:=mF.out t0 Uh;have e1:=ah 1 _ rfl;have s1:=mF.out t1 Uh;clear ah ae;have q1:(e.kind == 1)=false:=Uk;have q2:(e.kind == 2)=false:=Uk;have q4:(e.kind == 4)=false:=Uk;have q5:(e.kind == 5)=true:=Uk;have q6:(e.kind == 6)=false:=Uk;have q7:(e.kind == 7)=false:=Uk;have q8:(e.kind == 8)=false:=Uk;have q9:(e.kind == 9)=false:=Uk;have q10:(e.kind == 10)=false:=Uk;have z2:¬9223372036854775807<t0.size+1:=Ua;have z3:¬9223372036854775807<t0.size+1+(Ja6 e.n).size:=Ua;have z4:¬9223372036854775807<t0.size+1+(Ja6 e.n).size+1:=Ua;have z5:¬9223372036854775807<t0.size+1+(Ja6 e.n).size+1+t1.size:=Ua;have hv:e.showB=t0 ++ ⟨#[32]⟩ ++ Ja6 e.n ++ ⟨#[32]⟩ ++ t1:=F0;clear hk fW;have HV:=Nf hv;clear hv
    go_wp2_with fail
    refine Jx Ue Ue (fun bj=>?_)
    repeat (quiet_step ((go_at_call 53;exact Calls.regrown_of ((Jv4 _ _).mono fun _ _ h=>⟨h.1,Fv⟩))))
    refine wpQuiet_nil ?_;intro wq au;replace au:=qbo au;obtain⟨au,dA,bh⟩:=au;clear bj
    (try simp at bh)
    go_wp2_with fail
    go_ret;exact⟨Kk HV.out.symm,Jb⟩
   ·have ai:=eO.out;rw [hk] at ai;have eb:ts.length=3:=Ld;obtain⟨t0,t1,t2,rfl⟩:=Jn6 eb;clear eb ai;replace ae:wr.ownsRow W0.heap.size 9 1 u3 3 [.string t0,.string t1,.string t2]:=ae;obtain⟨g,gcap,rfl,eN,aG,bJ,cg,ah⟩:=Kc ae Ua;unfold maxLen at cg;have e0:=ah 0 _ rfl;have s0:=mF.out t0 Uh;have e1:=ah 1 _ rfl;have s1:=mF.out t1 Uh;have e2:=ah 2 _ rfl;have s2:=mF.out t2 Uh;clear ah ae;have q1:(e.kind == 1)=false:=Uk;have q2:(e.kind == 2)=false:=Uk;have q4:(e.kind == 4)=false:=Uk;have q5:(e.kind == 5)=false:=Uk;have q6:(e.kind == 6)=true:=Uk;have q7:(e.kind == 7)=false:=Uk;have q8:(e.kind == 8)=false:=Uk;have q9:(e.kind == 9)=false:=Uk;have q10:(e.kind == 10)=false:=Uk;have z2:¬9223372036854775807<3+t0.size:=Ua;have z3:¬9223372036854775807<3+t0.size+6:=Ua;have z4:¬9223372036854775807<3+t0.size+6+t1.size:=Ua;have z5:¬9223372036854775807<3+t0.size+6+t1.size+6:=Ua;have z6:¬9223372036854775807<3+t0.size+6+t1.size+6+t2.size:=Ua;have hv:e.showB=⟨#[105,102,32]⟩ ++ t0 ++ ⟨#[32,116,104,101,110,32]⟩ ++ t1 ++ ⟨#[32,101,108,115,101,32]⟩ ++ t2:=F0;exact Bw
   ·have ai:=eO.out;rw [hk] at ai;have eb:ts.length=2:=Ld;obtain⟨t0,t1,rfl⟩:=Jcn eb;clear eb ai;replace ae:wr.ownsRow W0.heap.size 9 1 u3 2 [.string t0,.string t1]:=ae;obtain⟨g,gcap,rfl,eN,aG,bJ,cg,ah⟩:=Kc ae Ua;unfold maxLen at cg;have e0:=ah 0 _ rfl;have s0:=mF.out t0 Uh;have e1:=ah 1 _ rfl;have s1:=mF.out t1 Uh;clear ah ae;have q1:(e.kind == 1)=false:=Uk;have q2:(e.kind == 2)=false:=Uk;have q4:(e.kind == 4)=false:=Uk;have q5:(e.kind == 5)=false:=Uk;have q6:(e.kind == 6)=false:=Uk;have q7:(e.kind == 7)=true:=Uk;have q8:(e.kind == 8)=false:=Uk;have q9:(e.kind == 9)=false:=Uk;have q10:(e.kind == 10)=false:=Uk;have z2:¬9223372036854775807<t0.size+4:=Ua;have z3:¬9223372036854775807<t0.size+4+t1.size:=Ua;have hv:e.showB=t0 ++ ⟨#[32,45,62,32]⟩ ++ t1:=F0;exact Bw
   ·have ai:=eO.out;rw [hk] at ai;have eb:ts.length=1:=Ld;obtain⟨t0,rfl⟩:=Jcd eb;clear eb ai;replace ae:wr.ownsRow W0.heap.size 9 1 u3 1 [.string t0]:=ae;obtain⟨g,gcap,rfl,eN,aG,bJ,cg,ah⟩:=Kc ae Ua;unfold maxLen at cg;have e0:=ah 0 _ rfl;have s0:=mF.out t0 Uh;clear ah ae;have q1:(e.kind == 1)=false:=Uk;have q2:(e.kind == 2)=false:=Uk;have q4:(e.kind == 4)=false:=Uk;have q5:(e.kind == 5)=false:=Uk;have q6:(e.kind == 6)=false:=Uk;have q7:(e.kind == 7)=false:=Uk;have q8:(e.kind == 8)=true:=Uk;have q9:(e.kind == 9)=false:=Uk;have q10:(e.kind == 10)=false:=Uk;have z2:¬9223372036854775807<t0.size+6:=Ua;have z3:¬9223372036854775807<t0.size+6+e.name.size:=Ua;have hv:e.showB=t0 ++ ⟨#[32,119,104,101,110,32]⟩ ++ e.name:=F0;exact Bw
   ·have ai:=eO.out;rw [hk] at ai;have eb:ts.length=1:=Ld;obtain⟨t0,rfl⟩:=Jcd eb;clear eb ai;replace ae:wr.ownsRow W0.heap.size 9 1 u3 1 [.string t0]:=ae;obtain⟨g,gcap,rfl,eN,aG,bJ,cg,ah⟩:=Kc ae Ua;unfold maxLen at cg;have e0:=ah 0 _ rfl;have s0:=mF.out t0 Uh;clear ah ae;have q1:(e.kind == 1)=false:=Uk;have q2:(e.kind == 2)=false:=Uk;have q4:(e.kind == 4)=false:=Uk;have q5:(e.kind == 5)=false:=Uk;have q6:(e.kind == 6)=false:=Uk;have q7:(e.kind == 7)=false:=Uk;have q8:(e.kind == 8)=false:=Uk;have q9:(e.kind == 9)=true:=Uk;have q10:(e.kind == 10)=false:=Uk;have z2:¬9223372036854775807<t0.size+8:=Ua;have z3:¬9223372036854775807<t0.size+8+e.name.size:=Ua;have hv:e.showB=t0 ++ ⟨#[32,117,110,108,101,115,115,32]⟩ ++ e.name:=F0;exact Bw
   ·have ai:=eO.out;rw [hk] at ai;have eb:ts.length=2:=Ld;obtain⟨t0,t1,rfl⟩:=Jcn eb;clear eb ai;replace ae:wr.ownsRow W0.heap.size 9 1 u3 2 [.string t0,.string t1]:=ae;obtain⟨g,gcap,rfl,eN,aG,bJ,cg,ah⟩:=Kc ae Ua;unfold maxLen at cg;have e0:=ah 0 _ rfl;have s0:=mF.out t0 Uh;have e1:=ah 1 _ rfl;have s1:=mF.out t1 Uh;clear ah ae;have q1:(e.kind == 1)=false:=Uk;have q2:(e.kind == 2)=false:=Uk;have q4:(e.kind == 4)=false:=Uk;have q5:(e.kind == 5)=false:=Uk;have q6:(e.kind == 6)=false:=Uk;have q7:(e.kind == 7)=false:=Uk;have q8:(e.kind == 8)=false:=Uk;have q9:(e.kind == 9)=false:=Uk;have q10:(e.kind == 10)=true:=Uk;have z2:¬9223372036854775807<6+e.name.size:=Ua;have z3:¬9223372036854775807<6+e.name.size+1:=Ua;have z4:¬9223372036854775807<6+e.name.size+1+t0.size:=Ua;have z5:¬9223372036854775807<6+e.name.size+1+t0.size+1:=Ua;have z6:¬9223372036854775807<6+e.name.size+1+t0.size+1+t1.size:=Ua;have hv:e.showB=⟨#[109,101,114,103,101,32]⟩ ++ e.name ++ ⟨#[32]⟩ ++ t0 ++ ⟨#[32]⟩ ++ t1:=F0;exact Bw
structure Jdw (w:World) (l:List Va) (A:Option Addr) (cap B n:Nat):Prop where
 vars:Ju w l A cap
 map:Jz Tryz.prog 9 3 w B n (Qi l)
theorem Jdw.later {w w':World} {l:List Va} {A:Option Addr} {cap B n:Nat} (h:Jdw w l A cap B n) (hb:Below w.heap.size w w'):Jdw w' l A cap B n:=⟨h.vars.later hb,h.map.bel hb⟩
def Q6 (l:List Va) (A:Option Addr) (cap B:Nat):Value:= .agg #[.slice A l.length cap,.map (some B)]
theorem Jr8 (l:List Va) (A:Option Addr) (cap B n:Nat) (s:ByteArray) (hs:s.size<=maxLen) (w:World) (hl:Jdw w l A cap B n) :
  Calls Tryz.prog 149 #[Q6 l A cap B,.string s] w fun r w'=>r = .returned (.tuple #[.int .i64 (K7 l s).1,.bool (K7 l s).2])/\Below w.heap.size w w':=by
 have aD:=hl.vars.len;unfold maxLen at aD;obtain⟨fD,cG⟩:=aD;have hm:=hl.map;have hBz:=hm.lt;have hv:K7 l s=K7 l s:=rfl;rw (occs:= .pos [2]) [K7] at hv;unfold Q6
 cases hf:Qi l s with
 | none=>
  rw [hf] at hv;have HV:=Nf hv;clear hv
  go_enter Tryz.func149,Tryz.ntmps149
  go_wp2_with (first|(at_lookup;refine Qh rfl (.tmp 10) (.tmp 11) 177 rfl Tryz.underlying9 Tryz.underlying177 Tryz.underlying3 (Kj _) B n (Qi l) s rfl Ub8 rfl hs ?_))
  go_wp2_with fail
  go_ret2
  exact⟨Vb,Jb⟩
 | some j=>
  rw [hf] at hv;obtain⟨k,v,rfl,hx,_⟩:=Zi hf;have fR:k<l.length:=(Nh hx).1;obtain⟨b,off,rfl,aH,⟨d0,d1,d2,d3⟩⟩:=hl.vars.get hx;simp only [Int.toNat_natCast,hx] at hv;have gz:b<w.heap.size+1:=Ua;clear hx;have HV:=Nf hv;clear hv
  go_enter Tryz.func149,Tryz.ntmps149
  go_wp2_with (first|(at_lookup;refine Qh rfl (.tmp 10) (.tmp 11) 177 rfl Tryz.underlying9 Tryz.underlying177 Tryz.underlying3 (Kj _) B n (Qi l) s rfl Ub8 rfl hs ?_))
  go_wp2_with fail
  go_ret2
  exact⟨Vb,Jb⟩
theorem Zd:(Tryz.prog.info? 3).map (fun i=>(i.zero,i.size,i.bytes))=some (some (.int .i64 0),1,8):=Ue
theorem Jwm {w:World} {base base':Nat} {e:TypeId} {size n:Nat} {v:Value} {xs:List Value} (h:w.ownsRow base e size v n xs) (hb:base'<=base):w.ownsRow base' e size v n xs:=by
 refine⟨h.1,?_⟩
 rcases h.2 with h2|⟨g,cap,cur,hv,hg,r⟩
 ·exact .inl h2
 ·exact .inr ⟨g,cap,cur,hv,Ua,r⟩
theorem Jvu (e:Ex) (l:List Va) (A:Option Addr) (cap B n:Nat) (Ae:Option Addr) (ce:Nat) (w:World) (he:Jt w e Ae ce) (hl:Jdw w l A cap B n) (h3:e.sub.length<=3)
  (ix:∀x∈e.sub,∀(A':Option Addr) (c':Nat) (W:World),Jt W x A' c'->Jdw W l A cap B n->
   Calls Tryz.prog 139 #[Q6 l A cap B,exV x A' c'] W fun r w'=>r = .returned (.tuple #[.int .i64 (x.typ l).1,.int .i64 (x.typ l).2])/\Below W.heap.size W w') :
  Calls Tryz.prog 148 #[Q6 l A cap B,exV e Ae ce] w fun r w'=>
   (∃v,r = .returned (.tuple #[v,.int .i64 (Ex.typL l e.sub).2])/\w'.ownsRow w.heap.size 3 1 v (Ex.typL l e.sub).1.length ((Ex.typL l e.sub).1.map (Value.int .i64)))/\Below w.heap.size w w':=by
 have ai:=he.len;unfold maxLen at ai;obtain⟨bI,aD⟩:=ai;have hT:=Nf (show Ku [] (Ex.typL l (e.sub.drop 0))=Ex.typL l e.sub from Xq _ (Yb l e.sub));unfold Q6 exV at *
 go_enter Tryz.func148,Tryz.ntmps148
 go_wp2_with fail
 refine Jo fun W0 ag=>?_;have ax:=Nd w W0 Uz;have bD:w.heap.size<W0.heap.size:=by rw [ag];first|omega|(simp;done)|(simp;omega)
 have hz01:w.heap.size+1<W0.heap.size:=Vu;have l0:=Nb W0 w.heap.size 0 (.slice A l.length cap) Uf;have l1:=Nb W0 w.heap.size 1 (.map (some B)) Uf;clear ag;replace he:=he.later ax;replace hl:=hl.later ax
 go_loopw [6,14] (fun v i wr=>∃(k:Nat) (acc:List Int),k<=e.sub.length/\i = .int .i64 k/\acc.length=k/\wr.ownsRow W0.heap.size 3 1 v k (acc.map (Value.int .i64))/\Ku acc (Ex.typL l (e.sub.drop k))=Ex.typL l e.sub/\Below W0.heap.size W0 wr) (fun _ i _=>e.sub.length-(intOf i).toNat)
 case atStart=>exact⟨0,[],Np,rfl,rfl,Nw,hT.out,Nt⟩
 case round=>
  obtain⟨k,acc,hk,rfl,aR,ae,aa,ab⟩:=hrel;have hc:=Jg ab;have bu:=ab.size;have af:=lt0 w wr;have br:=ltA w 1 wr;have dt:=Nf aR;clear aR
  by_cases am:k<e.sub.length
  ·obtain⟨x,hx,aj,hd⟩:=Kl am;obtain⟨b,off,A',cap',rfl,c0,c1,c2,c3,hs⟩:=(he.later ab).get hx;rw [hd] at aa;have cw:=ix x aj A' cap'
   cases ew:((x.typ l).2 != 0)
   ·have h0:(x.typ l).2=0:=by simpa using ew
    rw [Yl l acc x _ h0] at aa;have HR:=Nf aa;clear aa hd hx h0
    go_wp2_with (first|(go_at_call 139;refine(cw _ (hs.later Jb) (hl.later Jb)).mono ?_;rintro r w1 ⟨rfl,ac⟩;have ak:=Jg ac;have af:=ac.size;(try simp at af))|(at_builtin;refine Kap rfl (.tmp 27) (.tmp 29) 140 rfl W0.heap.size 3 (.int .i64 0) 1 8 Tryz.underlying140 Zd rfl Ua u6 k (acc.map (Value.int .i64)) _ 1 [.int .i64 (x.typ l).1] rfl Uca rfl rfl (fun j u hj=>Lu) Vg Ua Ua Ly ?_;intro v2 w2 ao aq;have br:=aq.size;(try simp at br)))
    go_roundw
    case rel=>exact⟨k+1,acc ++ [(x.typ l).1],Ua,Uw,by have:=dt.out;simp [this],by rw [List.map_append];exact ao,HR.out,Jb⟩
    case measure=>simp [intOf];omega
   ·have h0:(x.typ l).2≠0:=by simpa using ew
    rw [Yk l acc x _ h0] at aa;have HR:=Nf aa.symm;clear aa hd hx h0
    go_wp2_with (first|(go_at_call 139;refine(cw _ (hs.later Jb) (hl.later Jb)).mono ?_;rintro r w1 ⟨rfl,ac⟩;have ak:=Jg ac;have af:=ac.size;(try simp at af)))
    go_ret2
    exact⟨⟨.slice none 0 0,by rw [HR.out];rfl,by rw [HR.out];exact Nw⟩,Jb⟩
  ·obtain rfl:k=e.sub.length:=Ua;rw [Nn,Ex.typL,Ku,if_pos rfl,List.append_nil] at aa;have HR:=Nf aa.symm;clear aa
   go_wp2_with fail
   go_ret2
   refine⟨⟨_,by rw [HR.out];rfl,?_⟩,Jb⟩;rw [HR.out];have:=dt.out;dsimp only;rw [this];exact Jwm ae Ua
theorem Jzk (l:List Va) (e:Ex) (h:(e.typ l).2=0):(e.typ l).1=1\/(e.typ l).1=2:=by
 rw [Ex.typ_eq] at h ⊢
 split at h
 ·rename_i h0;rw [if_pos h0];unfold Y2 at h ⊢
  split at h
  ·exact Lc
  ·rename_i h1;rw [if_neg h1];unfold Jbl at h ⊢
   split at h
   ·rename_i h2;rw [if_pos h2];exact h2.2
   ·exact Lc
 ·rename_i h0;exact absurd h h0
theorem Jl8 (l:List Va):∀sub:List Ex,(Ex.typL l sub).2=0->∀t∈(Ex.typL l sub).1,t=1\/t=2
 | [],_,t,ht=>by simp [Ex.typL] at ht
 | x :: r,h,t,ht=>by
  simp only [Ex.typL,Ku] at h ht
  split at h
  ·rename_i h0;rw [if_pos h0] at ht
   split at h
   ·rename_i h1;rw [if_pos h1] at ht;simp only [List.singleton_append,List.mem_cons] at ht
    rcases ht with rfl|ht
    ·exact Jzk l x h0
    ·exact Jl8 l r h1 t ht
   ·rename_i h1;exact absurd h h1
  ·rename_i h0;exact absurd h h0
def Q7 (e:Ex) (l:List Va) (A:Option Addr) (cap B:Nat) (Ae:Option Addr) (ce:Nat) (w:World):Prop:=
 ∀W,Below w.heap.size w W->Calls Tryz.prog 148 #[Q6 l A cap B,exV e Ae ce] W fun r w'=>
   (∃v,r = .returned (.tuple #[v,.int .i64 (Ex.typL l e.sub).2])/\w'.ownsRow W.heap.size 3 1 v (Ex.typL l e.sub).1.length ((Ex.typL l e.sub).1.map (Value.int .i64)))/\Below W.heap.size W w'
def Xz (e:Ex) (l:List Va) (A:Option Addr) (cap B:Nat) (w:World):Prop:=
 ∀W,Below w.heap.size w W->Calls Tryz.prog 149 #[Q6 l A cap B,.string e.name] W fun r w'=>r = .returned (.tuple #[.int .i64 (K7 l e.name).1,.bool (K7 l e.name).2])/\Below W.heap.size W w'
theorem Jzu (e:Ex) (l:List Va) (A:Option Addr) (cap B:Nat) (Ae:Option Addr) (ce:Nat) (w:World) (t0 t1:Int) (hk:e.kind=7) (aU:Ex.typL l e.sub=([t0,t1],0)) (fQ:t0=1\/t0=2) (gJ:t1=1\/t1=2) (dI:e.name.toList.isEmpty=true)
  (av:Q7 e l A cap B Ae ce w) (aF:Xz e l A cap B w) :
  Calls Tryz.prog 139 #[Q6 l A cap B,exV e Ae ce] w fun r w'=>r = .returned (.tuple #[.int .i64 (e.typ l).1,.int .i64 (e.typ l).2])/\Below w.heap.size w w':=by
 have hv:e.typ l=Y2 l e.kind e.n e.name [t0,t1]:=Lp;rw [hk,Y2,if_neg Ll] at hv;have dS:(Ex.typL l e.sub).1 = [t0,t1]:=F5;have lG:(Ex.typL l e.sub).2=0:=F5;clear aU;unfold Q7 at av;unfold Xz at aF;have q1:(e.kind == 1)=false:=Uk;have q2:(e.kind == 2)=false:=Uk;have q3:(e.kind == 3)=false:=Uk;have q4:(e.kind == 4)=false:=Uk;have q5:(e.kind == 5)=false:=Uk;have q6:(e.kind == 6)=false:=Uk;have q7:(e.kind == 7)=true:=Uk;clear hk;unfold Q6 exV at *
 rcases fQ with rfl|rfl <;> rcases gJ with rfl|rfl <;>
 ·simp [Je3,Jbl] at hv;have HV:=Nf hv;clear hv
  go_enter Tryz.func139,Tryz.ntmps139
  go_wp2_with (first|(go_at_call 148;refine(av _ Jb).mono ?_;rintro r w1 ⟨⟨v,rfl,ae⟩,ac⟩;have ⟨ak,af⟩:=aft ac;(try simp at af);have bV:=alt ac;rw [dS] at ae;simp only [List.map_cons,List.map_nil,Nl,Nm,Nat.zero_add,Nat.reduceAdd] at ae;obtain⟨g,gc,rfl,eN,aG,bJ,cg,ah⟩:=Kc ae Ua;unfold maxLen at cg;have e0:=ah 0 _ rfl;have e1:=ah 1 _ rfl;clear ah ae)|(go_at_call 149;refine(aF _ Jb).mono ?_;rintro r w1 ⟨rfl,ac⟩;have ⟨ak,af⟩:=aft ac;(try simp at af);have bV:=alt ac;(try have eC:=Nr aG ac.size)))
  refine Jx Ue Ue (fun bj=>?_)
  repeat (quiet_step (fail))
  refine wpQuiet_nil ?_;intro wq au;replace au:=qbo au;obtain⟨au,dA,bh⟩:=au;clear bj
  (try simp at bh)
  have oO:=alt au
  go_wp2_with fail
  go_ret2
  exact⟨Vb,Jb⟩
theorem Kag (e:Ex) (l:List Va) (A:Option Addr) (cap B:Nat) (Ae:Option Addr) (ce:Nat) (w:World) (t0:Int) (hk:e.kind=8) (aU:Ex.typL l e.sub=([t0],0)) (fQ:t0=1\/t0=2) (dI:e.name.toList.isEmpty=false) (nP:(K7 l e.name).2=true)
  (av:Q7 e l A cap B Ae ce w) (aF:Xz e l A cap B w) :
  Calls Tryz.prog 139 #[Q6 l A cap B,exV e Ae ce] w fun r w'=>r = .returned (.tuple #[.int .i64 (e.typ l).1,.int .i64 (e.typ l).2])/\Below w.heap.size w w':=by
 have hv:e.typ l=Y2 l e.kind e.n e.name [t0]:=Lp;rw [hk,Y2,if_neg Ll] at hv;have dS:(Ex.typL l e.sub).1 = [t0]:=F5;have lG:(Ex.typL l e.sub).2=0:=F5;clear aU;unfold Q7 at av;unfold Xz at aF;have q1:(e.kind == 1)=false:=Uk;have q2:(e.kind == 2)=false:=Uk;have q3:(e.kind == 3)=false:=Uk;have q4:(e.kind == 4)=false:=Uk;have q5:(e.kind == 5)=false:=Uk;have q6:(e.kind == 6)=false:=Uk;have q7:(e.kind == 7)=false:=Uk;have q8:(e.kind == 8)=true:=Uk;clear hk;unfold Q6 exV at *;generalize aL:(K7 l e.name).1=nm at hv aF;clear aL
 rcases fQ with rfl|rfl <;> cases eu:(nm == 2) <;>
 ·exact T8
theorem Kab (e:Ex) (l:List Va) (A:Option Addr) (cap B:Nat) (Ae:Option Addr) (ce:Nat) (w:World) (t0:Int) (hk:e.kind=9) (aU:Ex.typL l e.sub=([t0],0)) (fQ:t0=1\/t0=2) (dI:e.name.toList.isEmpty=false) (nP:(K7 l e.name).2=true)
  (av:Q7 e l A cap B Ae ce w) (aF:Xz e l A cap B w) :
  Calls Tryz.prog 139 #[Q6 l A cap B,exV e Ae ce] w fun r w'=>r = .returned (.tuple #[.int .i64 (e.typ l).1,.int .i64 (e.typ l).2])/\Below w.heap.size w w':=by
 have hv:e.typ l=Y2 l e.kind e.n e.name [t0]:=Lp;rw [hk,Y2,if_neg Ll] at hv;have dS:(Ex.typL l e.sub).1 = [t0]:=F5;have lG:(Ex.typL l e.sub).2=0:=F5;clear aU;unfold Q7 at av;unfold Xz at aF;have q1:(e.kind == 1)=false:=Uk;have q2:(e.kind == 2)=false:=Uk;have q3:(e.kind == 3)=false:=Uk;have q4:(e.kind == 4)=false:=Uk;have q5:(e.kind == 5)=false:=Uk;have q6:(e.kind == 6)=false:=Uk;have q7:(e.kind == 7)=false:=Uk;have q8:(e.kind == 8)=false:=Uk;have q9:(e.kind == 9)=true:=Uk;clear hk;unfold Q6 exV at *;generalize aL:(K7 l e.name).1=nm at hv aF;clear aL
 rcases fQ with rfl|rfl <;> cases eu:(nm == 2) <;>
 ·exact T8
def Qf (w:World) (l:List ByteArray) (A:Option Addr) (cap:Nat):Prop:=
 l.length<=cap/\cap<=maxLen/\(0<l.length->∃b off,A=some ⟨b,off,none⟩/\∀(k:Nat) (s:ByteArray),l[k]?=some s->w.cell? ⟨b,off+k,none⟩=some (.string s))
theorem Qf.later {w w':World} {l:List ByteArray} {A:Option Addr} {cap:Nat} (h:Qf w l A cap) (hb:Below w.heap.size w w'):Qf w' l A cap:=
 ⟨h.1,h.2.1,fun hl=>by
  obtain⟨b,off,hA,hr⟩:=h.2.2 hl;exact⟨b,off,hA,fun k s hk=>Ja hb (hr k s hk)⟩⟩
theorem Qf.get {w:World} {l:List ByteArray} {A:Option Addr} {cap k:Nat} {s:ByteArray} (h:Qf w l A cap) (hk:l[k]?=some s):∃b off,A=some ⟨b,off,none⟩/\b<w.heap.size/\w.cell? ⟨b,off+k,none⟩=some (.string s):=by
 have am:k<l.length:=(Nh hk).1;obtain⟨b,off,hA,hr⟩:=h.2.2 Ua;exact⟨b,off,hA,Nu (hr k s hk),hr k s hk⟩
theorem Qf.len {w:World} {l:List ByteArray} {A:Option Addr} {cap:Nat} (h:Qf w l A cap):l.length<=cap/\cap<=maxLen:=⟨h.1,h.2.1⟩
theorem Qf.made (w:World) (l:List ByteArray) (t:TypeId) (c:Array Value) (hc:c=(l.map Value.string).toArray) (hl:l.length<=maxLen):Qf (w.alloc (.cells c t)) l (some ⟨w.heap.size,0,none⟩) l.length:=by
 refine⟨Ns _,hl,fun _=>⟨_,_,rfl,fun k s hk=>?_⟩⟩;rw [Nat.zero_add,Kw,hc];exact L3
def Jk0:List ByteArray:=[⟨#[110,111,100,101]⟩,⟨#[114,101,116,117,114,110,115]⟩,⟨#[118,97,114]⟩,⟨#[108,101,116]⟩,⟨#[116,101,108]⟩,⟨#[105,102]⟩,⟨#[116,104,101,110]⟩,⟨#[101,108,115,101]⟩,⟨#[102,98,121]⟩,⟨#[112,114,101]⟩,⟨#[119,104,101,110]⟩,⟨#[117,110,108,101,115,115]⟩,⟨#[109,101,114,103,101]⟩,⟨#[110,111,116]⟩,⟨#[116,114,117,101]⟩,⟨#[102,97,108,115,101]⟩,⟨#[105,110,116]⟩,⟨#[98,111,111,108]⟩]
theorem Qf.of_own {w:World} {base:Nat} {e:TypeId} {l:List ByteArray} {A:Option Addr} {cap:Nat} (h:w.ownsRow base e 1 (.slice A l.length cap) l.length (l.map .string)):Qf w l A cap:=by
 exact Bq
theorem Yz {a b c:World} {r0 r1:Option Nat} (h1:a.grownBy b r0) (h2:b.grownBy c r1) (hr:r1=r0\/∀k,r1=some k->a.heap.size<=k):a.grownBy c r0:=
 ⟨h2.os.trans h1.os,h2.tape.trans h1.tape,h2.output.trans h1.output,Nat.le_trans h1.size h2.size,fun k hk aS=>(h2.block k (Nr hk h1.size) (by
  rcases hr with rfl|hr
  ·exact aS
  ·intro he;have:=hr k he.symm;omega)).trans (h1.block k hk aS)⟩
theorem Jat {a b:World} {r0:Option Nat} (h:Below a.heap.size a b):a.grownBy b r0:=⟨h.os,h.tape,h.output,h.size,fun k hk _=>h.block k hk⟩
end Go.Proofs.YtdgjplldlfeolaaGreatDoor
namespace Go.Proofs.YtdgjplldlfeolaaGreatDoor
open Go.RowKit
def Zz (l:List Va) (j:Int):Int:=match l[j.toNat]? with|some v=>v.type|none=>0
def eqE (l:List Va) (ins:Int) (done:ByteArray->Option Int) (q:Qe):Int:=
 match Qi l q.name with
 | none=>19
 | some j=>
  if j<ins then 19
  else if 0<(done q.name).getD 0 then 18
  else if (q.e.typ l).2≠0 then(q.e.typ l).2
  else if q.delay=1/\(q.first.typ l).1≠Zz l j then 20
  else if (q.e.typ l).1≠Zz l j then 20
  else 0
def Jah (l:List Va):Nat->List Va->Option Nat
 | _,[]=>none
 | k,v :: r=>if (Qi l v.name).getD 0≠(k:Int) then some k else Jah l (k+1) r
def Zy (l:List Va) (ins:Int):Nat->(ByteArray->Option Int)->List Qe->Option (Nat×Int)×(ByteArray->Option Int)
 | _,d,[]=>(none,d)
 | k,d,q :: r=>if eqE l ins d q≠0 then(some (k,eqE l ins d q),d) else Zy l ins (k+1) (upd d q.name ((d q.name).getD 0+1)) r
def Jam (d:ByteArray->Option Int):Nat->List Va->Option Nat
 | _,[]=>none
 | k,v :: r=>if (d v.name).getD 0=0 then some k else Jam d (k+1) r
def Jg3 (d:ByteArray->Option Int) (l:List Va) (ins:Nat):Int×Int×Int:=
 match Jam d ins (l.drop ins) with
 | some k=>(2,(k:Int),8)
 | none=>(0,0,0)
def Jkn (l:List Va) (ins:Nat) (r:Option (Nat×Int)×(ByteArray->Option Int)):Int×Int×Int:=
 match r.1 with
 | some (k,e)=>(3,(k:Int),e)
 | none=>Jg3 r.2 l ins
def Jhl (p:Pr) (r:Option Nat):Int×Int×Int:=
 match r with
 | some k=>(2,(k:Int),18)
 | none=>Jkn (Je p) p.ins.length (Zy (Je p) p.ins.length 0 (fun _=>none) p.eqs)
def J7 (p:Pr):Int×Int×Int:=
 if K5 p≠0 then(4,0,K5 p)
 else if 8<p.ins.length\/8<p.outs.length\/24<(Je p).length then(4,0,3)
 else Jhl p (Jah (Je p) 0 (Je p))
end Go.Proofs.YtdgjplldlfeolaaGreatDoor
namespace Go.Proofs.YtdgjplldlfeolaaGreatDoor
open Go.RowKit Go.Sort
theorem Jc8:(Tryz.prog.info? 83).map (fun i=>(i.zero,i.size,i.bytes))=some (some (.agg #[.string ⟨#[]⟩,.int .i64 0,.int .i64 0,.string ⟨#[]⟩]),4,48):=Ue
theorem Jol {p:Pr} {w w3:World} {v3:Value} (h:w3.ownsRow (w.heap.size+1) 83 4 v3 (0+p.ins.length+p.outs.length+p.locals.length) ([] ++ Xe p.ins ++ Xe p.outs ++ Xe p.locals)) :
  ∃A cap,Ending.returned v3 = .returned (.slice A (Je p).length cap)/\w3.ownsRow w.heap.size 83 4 (.slice A (Je p).length cap) (Je p).length (Xe (Je p)):=by
 have e1:0+p.ins.length+p.outs.length+p.locals.length=(Je p).length:=Su;have e2 : [] ++ Xe p.ins ++ Xe p.outs ++ Xe p.locals=Xe (Je p):=by simp [Je,Xe]
 rw [e1,e2] at h;obtain⟨A,cap,rfl,_,_⟩:=Jv h;refine⟨A,cap,rfl,h.1,?_⟩
 rcases h.2 with h2|⟨g,cap',cur,hv,hg,r⟩
 ·exact .inl h2
 ·exact .inr ⟨g,cap',cur,hv,Ua,r⟩
theorem Jcv (p:Pr) (a:PrA) (w:World) (hp:Kr w p a) (n1:p.ins.length<=1000000) (n2:p.outs.length<=1000000) (n3:p.locals.length<=1000000) :
  Calls Tryz.prog 118 #[prV p a] w fun r w'=>
   (∃A cap,r = .returned (.slice A (Je p).length cap)/\w'.ownsRow w.heap.size 83 4 (.slice A (Je p).length cap) (Je p).length (Xe (Je p)))/\Below w.heap.size w w':=by
 have ak:=hp.ins;have dm:=hp.outs;have kE:=hp.locals;obtain⟨A1,c1,A2,c2,A3,c3,A4,c4⟩:=a;dsimp only at ak dm kE;unfold prV;dsimp only
 go_enter Tryz.func118,Tryz.ntmps118
 go_wp2_with (at_builtin;refine K6 rfl _ _ 35 rfl (w.heap.size+1) 83 _ 4 48 Tryz.underlying35 Jc8 rfl Ua (.slice none 0 0) 0 [] A1 p.ins.length c1 (Xe p.ins) rfl (Nw) rfl (ak.later Jb).cells (Jbg _) Ua Ua Uh ?_;intro v1 w1 ba ac)
 have aC:=Nd w w1 ((Jc (Nt) _).trans (ac.mono Ua));have af:w.heap.size+1<=w1.heap.size:=L6;have k2:=Nb w1 w.heap.size 2 (.slice A2 p.outs.length c2) (by rw [ac.cell Uh];go_simp)
 have k3:=Nb w1 w.heap.size 3 (.slice A3 p.locals.length c3) (by rw [ac.cell Uh];go_simp)
 go_region_law (first
  | (refine Jg1 rfl (.tmp 7) (.tmp 9) 35 rfl (w.heap.size+1) 83 _ 4 48 Tryz.underlying35 Jc8 rfl Ua v1 (0+p.ins.length) ([] ++ Xe p.ins) A2 p.outs.length c2 (Xe p.outs) rfl (Kp ba) rfl (dm.later (Jh aC)).cells (Jbg _) Ua Ua af ?_;intro v2 w2 ao aq;have iY:=Nd w w2 ((Jh aC).trans (aq.mono Ua));have br:w.heap.size+1<=w2.heap.size:=Nat.le_trans af aq.size;have k3':=Nb w2 w.heap.size 3 (.slice A3 p.locals.length c3) ((aq.cell (p:=⟨w.heap.size,3,none⟩) Uh).trans k3))
  | (refine Jg1 rfl (.tmp 10) (.tmp 12) 35 rfl (w.heap.size+1) 83 _ 4 48 Tryz.underlying35 Jc8 rfl Ua v2 (0+p.ins.length+p.outs.length) ([] ++ Xe p.ins ++ Xe p.outs) A3 p.locals.length c3 (Xe p.locals) rfl ao rfl (kE.later iY).cells (Jbg _) Ua Ua br ?_;intro v3 w3 aE aM))
 all_goals
  go_wp2_with fail
  go_ret;refine⟨?_,iY.trans (aM.mono Ua)⟩;exact Jol aE
end Go.Proofs.YtdgjplldlfeolaaGreatDoor
