/- Lemmas. -/
import Derived.Test.YtdgjplldlfeolaaGreatDoorZ01
import Derived.Test.YtdgjplldlfeolaaGreatDoorZ00
set_option linter.unusedVariables false
set_option linter.unusedSimpArgs false
set_option maxRecDepth 100000
set_option maxHeartbeats 64000000
namespace Go.Proofs.YtdgjplldlfeolaaGreatDoor
open Go.RowKit Go.Sort
theorem Jve {α:Type} (l:List α) (k:Nat) (x:α) (h:l[k]?=some x):l.take (k+1)=l.take k ++ [x]:=by
 rw [List.take_add_one,h];rfl
theorem Jsp {e:Ex} (hf:e.formed=true) (hz:e.size<=100000) (f:Bool):∀t∈Ex.showL f e.sub,t.size<=4000000:=by
 intro t ht;rw [Ex.showL_map] at ht;obtain⟨x,hx,rfl⟩:=List.mem_map.1 ht;have h1:=Ex.showB_size x (Ex.formed_sub hf hx);obtain⟨k,hk⟩:=List.mem_iff_getElem?.1 hx;have h2:=Ex.size_sub hk;have h3:=Jkk x.kind x.showB
 split
 ·omega
 ·unfold Ex.partB;omega
theorem Jcd {α:Type} {l:List α} (h:l.length=1):∃a,l = [a]:=by
 match l,h with
 | [a],_=>exact⟨a,rfl⟩
theorem Jcn {α:Type} {l:List α} (h:l.length=2):∃a b,l = [a,b]:=by
 match l,h with
 | [a,b],_=>exact⟨a,b,rfl⟩
theorem Jn6 {α:Type} {l:List α} (h:l.length=3):∃a b c,l = [a,b,c]:=by
 match l,h with
 | [a,b,c],_=>exact⟨a,b,c,rfl⟩
theorem Jbc {e:Ex} (h:e.formed=true):e.kind=1\/e.kind=2\/e.kind=3\/e.kind=4\/e.kind=5\/e.kind=6\/e.kind=7\/e.kind=8\/e.kind=9\/e.kind=10:=by
 rw [Ex.formed_eq,Bool.and_eq_true] at h;have h1:=h.1;simp only [Jl,Bool.and_eq_true] at h1;have h2:=h1.1.1.1.1.1;unfold Jw at h2
 repeat' split at h2
 all_goals first|omega|(simp at h2)
theorem Jhg (e:Ex):e.formed=true->e.size<=100000->∀(A:Option Addr) (cap:Nat) (w:World),Jt w e A cap->
  Calls Tryz.prog 25 #[exV e A cap] w fun r w'=>r = .returned (.string e.showB)/\Below w.heap.size w w':=by
 induction e using Ex.ind with
 | h e ih=>
 intro hf hz A cap w he;have hl:=he.len;unfold maxLen at hl;obtain⟨bI,aD⟩:=hl;have ai:=(Ex.formed_kind hf).1;have aL:=(Ex.formed_kind hf).2;have li:=Jsp hf hz (e.kind == 6);have aU:=Ex.showL_len (e.kind == 6) e.sub;have jP:=Ex.showB_eq e
 have fW : -2147483648<=e.n/\e.n<=2147483647\/e.kind≠1:=by
  rw [Ex.formed_eq,Bool.and_eq_true] at hf
  by_cases h1:e.kind=1
  ·left
   have hh:=hf.1;rw [h1] at hh;simp [Jl,Jw] at hh;omega
  ·exact .inr h1
 have cq:∀x∈e.sub,∀(B:Option Addr) (c:Nat) (W:World),Jt W x B c->Calls Tryz.prog 51 #[exV x B c] W fun r w'=>r = .returned (.string x.partB)/\Below W.heap.size W w':=by
  intro x hx B c W hW;have h1:=Ex.showB_size x (Ex.formed_sub hf hx);obtain⟨k,hk⟩:=List.mem_iff_getElem?.1 hx;have h2:=Ex.size_sub hk;exact Jyv (by omega) hW fun W' h'=>ih x hx (Ex.formed_sub hf hx) (by omega) B c W' h'
 have bY:∀x∈e.sub,∀(B:Option Addr) (c:Nat) (W:World),Jt W x B c->Calls Tryz.prog 25 #[exV x B c] W fun r w'=>r = .returned (.string x.showB)/\Below W.heap.size W w':=by
  intro x hx B c W hW;obtain⟨k,hk⟩:=List.mem_iff_getElem?.1 hx;have h2:=Ex.size_sub hk;exact ih x hx (Ex.formed_sub hf hx) (by omega) B c W hW
 have iD:∀(k:Nat) (x:Ex),e.sub[k]?=some x->(Ex.showL (e.kind == 6) e.sub)[k]?=some (if (e.kind == 6)=true then x.showB else x.partB):=by
  intro k x hk;rw [Ex.showL_map,List.getElem?_map,hk];rfl
 clear ih
 have fD:e.sub.length<=3:=by
  unfold Jw at ai
  repeat' split at ai
  all_goals first|omega|(simp at ai;omega)
 have eO:=Lib.hid ai;clear ai;have gn:=Lib.hid aU;clear aU;have fY:=Lib.hid jP;clear jP;have mF:=Lib.hid li;clear li;have HGET:=Lib.hid iD;clear iD;generalize hT:Ex.showL (e.kind == 6) e.sub=ts at gn fY mF HGET;clear hT;have HF:=Lib.hid hf;clear hf;unfold exV
 go_enter Tryz.func25,Tryz.ntmps25
 go_wp2_with fail
 refine Jo fun W0 ag=>?_;have ax:Below w.heap.size w W0:=by rw [ag];exact Jb
 have bD:w.heap.size<W0.heap.size:=by rw [ag];first|omega|(simp;omega)|simp
 have k0:W0.cell? ⟨w.heap.size,0,none⟩=some (.int .i64 e.kind):=by rw [ag];go_simp
 have k1:W0.cell? ⟨w.heap.size,1,none⟩=some (.int .i32 e.n):=by rw [ag];go_simp
 have k2:W0.cell? ⟨w.heap.size,2,none⟩=some (.string e.name):=by rw [ag];go_simp
 clear ag;replace he:=he.later ax
 go_loopw [3,9] (fun v i wr=>∃(k:Nat),k<=e.sub.length/\i = .int .i64 k/\wr.ownsRow W0.heap.size 9 1 v k ((ts.take k).map Value.string)/\Below W0.heap.size W0 wr) (fun _ i _=>e.sub.length-(intOf i).toNat)
 case atStart=>exact⟨0,Nat.zero_le _,rfl,World.ownsRow_nil _ _ _ _,Below.refl _ _⟩
 case round=>
  obtain⟨k,hk,rfl,ae,ab⟩:=hrel;have hc:=Jg ab;have bu:=ab.size;have af:w.heap.size<wr.heap.size:=by omega
  by_cases am:k<e.sub.length
  ·obtain⟨x,hx,aj,hd⟩:=Kl am;obtain⟨b,off,A',cap',rfl,c0,c1,c2,c3,hs⟩:=(he.later ab).get hx;have hg:=HGET.out k x hx;have aP:=congrArg (List.map Value.string) (Jve ts k _ hg);rw [List.map_append,List.map_cons,List.map_nil] at aP;have eZ:=Lib.hid aP;clear aP hg hd hx
   cases h6:(e.kind == 6)
   ·rw [h6,if_neg (by simp)] at eZ;have hp:=cq x aj A' cap';unfold exV at hp
    go_wp2_with (first|(go_at_call 51;refine mo (hp _ (hs.later Jb)) fun w1 ac ak af bV=>?_;(try simp at af))|(at_builtin;refine Kap rfl (.tmp 21) (.tmp 24) 119 rfl W0.heap.size 9 (.string ⟨#[]⟩) 1 16 Tryz.underlying119 Zq rfl (by omega) u3 k ((ts.take k).map Value.string) _ 1 [.string x.partB] rfl (by repeat (first|(with_reducible assumption)|refine Js ?_|refine Jy ?_ (by with_reducible assumption)|refine Kp ?_)) rfl rfl (fun j u hj=>by rw [Kw];simpa using hj) (by simp [Value.oneCell']) (by omega) (by omega) (by first|omega|(simp;omega)) ?_;intro v2 w2 ao aq;have br:=aq.size;(try simp at br)))
    go_roundw
    case rel=>exact⟨k+1,by omega,by go_num,by rw [eZ.out];exact ao,Jb⟩
    case measure=>simp [intOf];omega
   ·rw [h6,if_pos rfl] at eZ;have hp:=bY x aj A' cap';unfold exV at hp
    go_wp2_with (first|(go_at_call 25;refine mo (hp _ (hs.later Jb)) fun w1 ac ak af bV=>?_;(try simp at af))|(at_builtin;refine Kap rfl (.tmp 16) (.tmp 19) 119 rfl W0.heap.size 9 (.string ⟨#[]⟩) 1 16 Tryz.underlying119 Zq rfl (by omega) u3 k ((ts.take k).map Value.string) _ 1 [.string x.showB] rfl (by repeat (first|(with_reducible assumption)|refine Js ?_|refine Jy ?_ (by with_reducible assumption)|refine Kp ?_)) rfl rfl (fun j u hj=>by rw [Kw];simpa using hj) (by simp [Value.oneCell']) (by omega) (by omega) (by first|omega|(simp;omega)) ?_;intro v2 w2 ao aq;have br:=aq.size;(try simp at br)))
    go_roundw
    case rel=>exact⟨k+1,by omega,by go_num,by rw [eZ.out];exact ao,Jb⟩
    case measure=>simp [intOf];omega
  ·obtain rfl:k=e.sub.length:=by omega
   rw [<-gn.out,List.take_length] at ae;have xH:=Jhr e.n
   rcases Jbc HF.out with hk|hk|hk|hk|hk|hk|hk|hk|hk|hk
   ·have ai:=eO.out;rw [hk] at ai;have eb:ts.length=0:=by have:=gn.out;simp [Jw] at ai;simp [this,ai]
    obtain rfl:=List.length_eq_zero_iff.1 eb;clear eb ai;have hi : -2147483648<=e.n/\e.n<=2147483647:=by omega
    have hv:e.showB=Zn e.n:=by rw [fY.out,hk];rfl
    have q1:(e.kind == 1)=true:=by rw [hk];rfl
    have q2:(e.kind == 2)=false:=by rw [hk];rfl
    have q4:(e.kind == 4)=false:=by rw [hk];rfl
    have q5:(e.kind == 5)=false:=by rw [hk];rfl
    have q6:(e.kind == 6)=false:=by rw [hk];rfl
    have q7:(e.kind == 7)=false:=by rw [hk];rfl
    have q8:(e.kind == 8)=false:=by rw [hk];rfl
    have q9:(e.kind == 9)=false:=by rw [hk];rfl
    have q10:(e.kind == 10)=false:=by rw [hk];rfl
    clear hk fW;have wN:=fun W=>Jtb e.n W hi.1 hi.2;have HV:=Lib.hid hv;clear hv
    go_wp2_with (first|(go_at_call 52;refine mo (wN _) fun w1 ac ak af bV=>?_;(try simp at af)))
    go_ret;exact⟨Kk HV.out.symm,Jb⟩
   ·have ai:=eO.out;rw [hk] at ai;have eb:ts.length=0:=by have:=gn.out;simp [Jw] at ai;simp [this,ai]
    obtain rfl:=List.length_eq_zero_iff.1 eb;clear eb ai;have q1:(e.kind == 1)=false:=by rw [hk];rfl
    have q2:(e.kind == 2)=true:=by rw [hk];rfl
    have q4:(e.kind == 4)=false:=by rw [hk];rfl
    have q5:(e.kind == 5)=false:=by rw [hk];rfl
    have q6:(e.kind == 6)=false:=by rw [hk];rfl
    have q7:(e.kind == 7)=false:=by rw [hk];rfl
    have q8:(e.kind == 8)=false:=by rw [hk];rfl
    have q9:(e.kind == 9)=false:=by rw [hk];rfl
    have q10:(e.kind == 10)=false:=by rw [hk];rfl
    cases hn:(e.n == 0)
    ·have hv:e.showB=⟨#[116,114,117,101]⟩:=by rw [fY.out,hk];simp [Ye];simpa using hn
     clear hk fW;have HV:=Lib.hid hv;clear hv
     go_wp2_with fail
     go_ret;exact⟨Kk HV.out.symm,Jb⟩
    ·have hv:e.showB=⟨#[102,97,108,115,101]⟩:=by rw [fY.out,hk];simp [Ye];simpa using hn
     clear hk fW;have HV:=Lib.hid hv;clear hv
     go_wp2_with fail
     go_ret;exact⟨Kk HV.out.symm,Jb⟩
   ·have ai:=eO.out;rw [hk] at ai;have eb:ts.length=0:=by have:=gn.out;simp [Jw] at ai;simp [this,ai]
    obtain rfl:=List.length_eq_zero_iff.1 eb;clear eb ai;have q1:(e.kind == 1)=false:=by rw [hk];rfl
    have q2:(e.kind == 2)=false:=by rw [hk];rfl
    have q4:(e.kind == 4)=false:=by rw [hk];rfl
    have q5:(e.kind == 5)=false:=by rw [hk];rfl
    have q6:(e.kind == 6)=false:=by rw [hk];rfl
    have q7:(e.kind == 7)=false:=by rw [hk];rfl
    have q8:(e.kind == 8)=false:=by rw [hk];rfl
    have q9:(e.kind == 9)=false:=by rw [hk];rfl
    have q10:(e.kind == 10)=false:=by rw [hk];rfl
    have hv:e.showB=e.name:=by rw [fY.out,hk];rfl
    clear hk fW;have HV:=Lib.hid hv;clear hv
    go_wp2_with fail
    go_ret;exact⟨Kk HV.out.symm,Jb⟩
   ·have ai:=eO.out;rw [hk] at ai;have eb:ts.length=1:=by have:=gn.out;simp [Jw] at ai;omega
    obtain⟨t0,rfl⟩:=Jcd eb;clear eb ai;replace ae:wr.ownsRow W0.heap.size 9 1 u3 1 [.string t0]:=ae;obtain⟨g,gcap,rfl,eN,aG,bJ,cg,ah⟩:=Kc ae (by omega);unfold maxLen at cg;have e0:=ah 0 _ rfl;have s0:=mF.out t0 (by simp);clear ah ae;have q1:(e.kind == 1)=false:=by rw [hk];rfl
    have q2:(e.kind == 2)=false:=by rw [hk];rfl
    have q4:(e.kind == 4)=true:=by rw [hk];rfl
    have q5:(e.kind == 5)=false:=by rw [hk];rfl
    have q6:(e.kind == 6)=false:=by rw [hk];rfl
    have q7:(e.kind == 7)=false:=by rw [hk];rfl
    have q8:(e.kind == 8)=false:=by rw [hk];rfl
    have q9:(e.kind == 9)=false:=by rw [hk];rfl
    have q10:(e.kind == 10)=false:=by rw [hk];rfl
    cases hn:(e.n == 2)
    ·have hv:e.showB=⟨#[45]⟩ ++ t0:=by rw [fY.out,hk];simp [Ye];simpa using hn
     clear hk fW;have HV:=Lib.hid hv;clear hv
     go_wp2_with fail
     go_ret;exact⟨Kk HV.out.symm,Jb⟩
    ·have hv:e.showB=⟨#[110,111,116,32]⟩ ++ t0:=by rw [fY.out,hk];simp [Ye];simpa using hn
     clear hk fW;have HV:=Lib.hid hv;clear hv
     go_wp2_with fail
     go_ret;exact⟨Kk HV.out.symm,Jb⟩
   ·have ai:=eO.out;rw [hk] at ai;have eb:ts.length=2:=by have:=gn.out;simp [Jw] at ai;omega
    obtain⟨t0,t1,rfl⟩:=Jcn eb;clear eb ai;replace ae:wr.ownsRow W0.heap.size 9 1 u3 2 [.string t0,.string t1]:=ae;obtain⟨g,gcap,rfl,eN,aG,bJ,cg,ah⟩:=Kc ae (by omega);unfold maxLen at cg;have e0:=ah 0 _ rfl;have s0:=mF.out t0 (by simp);have e1:=ah 1 _ rfl;have s1:=mF.out t1 (by simp);clear ah ae;have q1:(e.kind == 1)=false:=by rw [hk];rfl
    have q2:(e.kind == 2)=false:=by rw [hk];rfl
    have q4:(e.kind == 4)=false:=by rw [hk];rfl
    have q5:(e.kind == 5)=true:=by rw [hk];rfl
    have q6:(e.kind == 6)=false:=by rw [hk];rfl
    have q7:(e.kind == 7)=false:=by rw [hk];rfl
    have q8:(e.kind == 8)=false:=by rw [hk];rfl
    have q9:(e.kind == 9)=false:=by rw [hk];rfl
    have q10:(e.kind == 10)=false:=by rw [hk];rfl
    have z2:¬9223372036854775807<t0.size+1:=by omega
    have z3:¬9223372036854775807<t0.size+1+(Ja6 e.n).size:=by omega
    have z4:¬9223372036854775807<t0.size+1+(Ja6 e.n).size+1:=by omega
    have z5:¬9223372036854775807<t0.size+1+(Ja6 e.n).size+1+t1.size:=by omega
    have hv:e.showB=t0 ++ ⟨#[32]⟩ ++ Ja6 e.n ++ ⟨#[32]⟩ ++ t1:=by rw [fY.out,hk];simp [Ye]
    clear hk fW;have HV:=Lib.hid hv;clear hv
    go_wp2_with fail
    refine Jx (by kernel_rfl) (by kernel_rfl) (fun bj=>?_)
    repeat (quiet_step ((go_at_call 53;exact Calls.regrown_of ((Jv4 _ _).mono fun _ _ h=>⟨h.1,by rw [<-h.2];exact Below.refl _ _⟩))))
    refine wpQuiet_nil ?_;intro wq au;replace au:=qbo au;obtain⟨au,dA,bh⟩:=au;clear bj
    (try simp at bh)
    go_wp2_with fail
    go_ret;exact⟨Kk HV.out.symm,Jb⟩
   ·have ai:=eO.out;rw [hk] at ai;have eb:ts.length=3:=by have:=gn.out;simp [Jw] at ai;omega
    obtain⟨t0,t1,t2,rfl⟩:=Jn6 eb;clear eb ai;replace ae:wr.ownsRow W0.heap.size 9 1 u3 3 [.string t0,.string t1,.string t2]:=ae;obtain⟨g,gcap,rfl,eN,aG,bJ,cg,ah⟩:=Kc ae (by omega);unfold maxLen at cg;have e0:=ah 0 _ rfl;have s0:=mF.out t0 (by simp);have e1:=ah 1 _ rfl;have s1:=mF.out t1 (by simp);have e2:=ah 2 _ rfl;have s2:=mF.out t2 (by simp);clear ah ae;have q1:(e.kind == 1)=false:=by rw [hk];rfl
    have q2:(e.kind == 2)=false:=by rw [hk];rfl
    have q4:(e.kind == 4)=false:=by rw [hk];rfl
    have q5:(e.kind == 5)=false:=by rw [hk];rfl
    have q6:(e.kind == 6)=true:=by rw [hk];rfl
    have q7:(e.kind == 7)=false:=by rw [hk];rfl
    have q8:(e.kind == 8)=false:=by rw [hk];rfl
    have q9:(e.kind == 9)=false:=by rw [hk];rfl
    have q10:(e.kind == 10)=false:=by rw [hk];rfl
    have z2:¬9223372036854775807<3+t0.size:=by omega
    have z3:¬9223372036854775807<3+t0.size+6:=by omega
    have z4:¬9223372036854775807<3+t0.size+6+t1.size:=by omega
    have z5:¬9223372036854775807<3+t0.size+6+t1.size+6:=by omega
    have z6:¬9223372036854775807<3+t0.size+6+t1.size+6+t2.size:=by omega
    have hv:e.showB=⟨#[105,102,32]⟩ ++ t0 ++ ⟨#[32,116,104,101,110,32]⟩ ++ t1 ++ ⟨#[32,101,108,115,101,32]⟩ ++ t2:=by rw [fY.out,hk];simp [Ye]
    clear hk fW;have HV:=Lib.hid hv;clear hv
    go_wp2_with fail
    refine Jx (by kernel_rfl) (by kernel_rfl) (fun bj=>?_)
    repeat (quiet_step (fail))
    refine wpQuiet_nil ?_;intro wq au;replace au:=qbo au;obtain⟨au,dA,bh⟩:=au;clear bj
    (try simp at bh)
    go_wp2_with fail
    go_ret;exact⟨Kk HV.out.symm,Jb⟩
   ·have ai:=eO.out;rw [hk] at ai;have eb:ts.length=2:=by have:=gn.out;simp [Jw] at ai;omega
    obtain⟨t0,t1,rfl⟩:=Jcn eb;clear eb ai;replace ae:wr.ownsRow W0.heap.size 9 1 u3 2 [.string t0,.string t1]:=ae;obtain⟨g,gcap,rfl,eN,aG,bJ,cg,ah⟩:=Kc ae (by omega);unfold maxLen at cg;have e0:=ah 0 _ rfl;have s0:=mF.out t0 (by simp);have e1:=ah 1 _ rfl;have s1:=mF.out t1 (by simp);clear ah ae;have q1:(e.kind == 1)=false:=by rw [hk];rfl
    have q2:(e.kind == 2)=false:=by rw [hk];rfl
    have q4:(e.kind == 4)=false:=by rw [hk];rfl
    have q5:(e.kind == 5)=false:=by rw [hk];rfl
    have q6:(e.kind == 6)=false:=by rw [hk];rfl
    have q7:(e.kind == 7)=true:=by rw [hk];rfl
    have q8:(e.kind == 8)=false:=by rw [hk];rfl
    have q9:(e.kind == 9)=false:=by rw [hk];rfl
    have q10:(e.kind == 10)=false:=by rw [hk];rfl
    have z2:¬9223372036854775807<t0.size+4:=by omega
    have z3:¬9223372036854775807<t0.size+4+t1.size:=by omega
    have hv:e.showB=t0 ++ ⟨#[32,45,62,32]⟩ ++ t1:=by rw [fY.out,hk];simp [Ye]
    clear hk fW;have HV:=Lib.hid hv;clear hv
    go_wp2_with fail
    refine Jx (by kernel_rfl) (by kernel_rfl) (fun bj=>?_)
    repeat (quiet_step (fail))
    refine wpQuiet_nil ?_;intro wq au;replace au:=qbo au;obtain⟨au,dA,bh⟩:=au;clear bj
    (try simp at bh)
    go_wp2_with fail
    go_ret;exact⟨Kk HV.out.symm,Jb⟩
   ·have ai:=eO.out;rw [hk] at ai;have eb:ts.length=1:=by have:=gn.out;simp [Jw] at ai;omega
    obtain⟨t0,rfl⟩:=Jcd eb;clear eb ai;replace ae:wr.ownsRow W0.heap.size 9 1 u3 1 [.string t0]:=ae;obtain⟨g,gcap,rfl,eN,aG,bJ,cg,ah⟩:=Kc ae (by omega);unfold maxLen at cg;have e0:=ah 0 _ rfl;have s0:=mF.out t0 (by simp);clear ah ae;have q1:(e.kind == 1)=false:=by rw [hk];rfl
    have q2:(e.kind == 2)=false:=by rw [hk];rfl
    have q4:(e.kind == 4)=false:=by rw [hk];rfl
    have q5:(e.kind == 5)=false:=by rw [hk];rfl
    have q6:(e.kind == 6)=false:=by rw [hk];rfl
    have q7:(e.kind == 7)=false:=by rw [hk];rfl
    have q8:(e.kind == 8)=true:=by rw [hk];rfl
    have q9:(e.kind == 9)=false:=by rw [hk];rfl
    have q10:(e.kind == 10)=false:=by rw [hk];rfl
    have z2:¬9223372036854775807<t0.size+6:=by omega
    have z3:¬9223372036854775807<t0.size+6+e.name.size:=by omega
    have hv:e.showB=t0 ++ ⟨#[32,119,104,101,110,32]⟩ ++ e.name:=by rw [fY.out,hk];simp [Ye]
    clear hk fW;have HV:=Lib.hid hv;clear hv
    go_wp2_with fail
    refine Jx (by kernel_rfl) (by kernel_rfl) (fun bj=>?_)
    repeat (quiet_step (fail))
    refine wpQuiet_nil ?_;intro wq au;replace au:=qbo au;obtain⟨au,dA,bh⟩:=au;clear bj
    (try simp at bh)
    go_wp2_with fail
    go_ret;exact⟨Kk HV.out.symm,Jb⟩
   ·have ai:=eO.out;rw [hk] at ai;have eb:ts.length=1:=by have:=gn.out;simp [Jw] at ai;omega
    obtain⟨t0,rfl⟩:=Jcd eb;clear eb ai;replace ae:wr.ownsRow W0.heap.size 9 1 u3 1 [.string t0]:=ae;obtain⟨g,gcap,rfl,eN,aG,bJ,cg,ah⟩:=Kc ae (by omega);unfold maxLen at cg;have e0:=ah 0 _ rfl;have s0:=mF.out t0 (by simp);clear ah ae;have q1:(e.kind == 1)=false:=by rw [hk];rfl
    have q2:(e.kind == 2)=false:=by rw [hk];rfl
    have q4:(e.kind == 4)=false:=by rw [hk];rfl
    have q5:(e.kind == 5)=false:=by rw [hk];rfl
    have q6:(e.kind == 6)=false:=by rw [hk];rfl
    have q7:(e.kind == 7)=false:=by rw [hk];rfl
    have q8:(e.kind == 8)=false:=by rw [hk];rfl
    have q9:(e.kind == 9)=true:=by rw [hk];rfl
    have q10:(e.kind == 10)=false:=by rw [hk];rfl
    have z2:¬9223372036854775807<t0.size+8:=by omega
    have z3:¬9223372036854775807<t0.size+8+e.name.size:=by omega
    have hv:e.showB=t0 ++ ⟨#[32,117,110,108,101,115,115,32]⟩ ++ e.name:=by rw [fY.out,hk];simp [Ye]
    clear hk fW;have HV:=Lib.hid hv;clear hv
    go_wp2_with fail
    refine Jx (by kernel_rfl) (by kernel_rfl) (fun bj=>?_)
    repeat (quiet_step (fail))
    refine wpQuiet_nil ?_;intro wq au;replace au:=qbo au;obtain⟨au,dA,bh⟩:=au;clear bj
    (try simp at bh)
    go_wp2_with fail
    go_ret;exact⟨Kk HV.out.symm,Jb⟩
   ·have ai:=eO.out;rw [hk] at ai;have eb:ts.length=2:=by have:=gn.out;simp [Jw] at ai;omega
    obtain⟨t0,t1,rfl⟩:=Jcn eb;clear eb ai;replace ae:wr.ownsRow W0.heap.size 9 1 u3 2 [.string t0,.string t1]:=ae;obtain⟨g,gcap,rfl,eN,aG,bJ,cg,ah⟩:=Kc ae (by omega);unfold maxLen at cg;have e0:=ah 0 _ rfl;have s0:=mF.out t0 (by simp);have e1:=ah 1 _ rfl;have s1:=mF.out t1 (by simp);clear ah ae;have q1:(e.kind == 1)=false:=by rw [hk];rfl
    have q2:(e.kind == 2)=false:=by rw [hk];rfl
    have q4:(e.kind == 4)=false:=by rw [hk];rfl
    have q5:(e.kind == 5)=false:=by rw [hk];rfl
    have q6:(e.kind == 6)=false:=by rw [hk];rfl
    have q7:(e.kind == 7)=false:=by rw [hk];rfl
    have q8:(e.kind == 8)=false:=by rw [hk];rfl
    have q9:(e.kind == 9)=false:=by rw [hk];rfl
    have q10:(e.kind == 10)=true:=by rw [hk];rfl
    have z2:¬9223372036854775807<6+e.name.size:=by omega
    have z3:¬9223372036854775807<6+e.name.size+1:=by omega
    have z4:¬9223372036854775807<6+e.name.size+1+t0.size:=by omega
    have z5:¬9223372036854775807<6+e.name.size+1+t0.size+1:=by omega
    have z6:¬9223372036854775807<6+e.name.size+1+t0.size+1+t1.size:=by omega
    have hv:e.showB=⟨#[109,101,114,103,101,32]⟩ ++ e.name ++ ⟨#[32]⟩ ++ t0 ++ ⟨#[32]⟩ ++ t1:=by rw [fY.out,hk];simp [Ye]
    clear hk fW;have HV:=Lib.hid hv;clear hv
    go_wp2_with fail
    refine Jx (by kernel_rfl) (by kernel_rfl) (fun bj=>?_)
    repeat (quiet_step (fail))
    refine wpQuiet_nil ?_;intro wq au;replace au:=qbo au;obtain⟨au,dA,bh⟩:=au;clear bj
    (try simp at bh)
    go_wp2_with fail
    go_ret;exact⟨Kk HV.out.symm,Jb⟩
structure Jdw (w:World) (l:List Va) (A:Option Addr) (cap B n:Nat):Prop where
 vars:Ju w l A cap
 map:Jz Tryz.prog 9 3 w B n (Qi l)
theorem Jdw.later {w w':World} {l:List Va} {A:Option Addr} {cap B n:Nat} (h:Jdw w l A cap B n) (hb:Below w.heap.size w w'):Jdw w' l A cap B n:=⟨h.vars.later hb,h.map.bel hb⟩
def Q6 (l:List Va) (A:Option Addr) (cap B:Nat):Value:= .agg #[.slice A l.length cap,.map (some B)]
theorem Jr8 (l:List Va) (A:Option Addr) (cap B n:Nat) (s:ByteArray) (hs:s.size<=maxLen) (w:World) (hl:Jdw w l A cap B n) :
  Calls Tryz.prog 149 #[Q6 l A cap B,.string s] w fun r w'=>r = .returned (.tuple #[.int .i64 (K7 l s).1,.bool (K7 l s).2])/\Below w.heap.size w w':=by
 have aD:=hl.vars.len;unfold maxLen at aD;obtain⟨fD,cG⟩:=aD;have hm:=hl.map;have hBz:=hm.lt;have hv:K7 l s=K7 l s:=rfl;rw (occs:= .pos [2]) [K7] at hv;unfold Q6
 cases hf:Qi l s with
 | none=>
  rw [hf] at hv;have HV:=Lib.hid hv;clear hv
  go_enter Tryz.func149,Tryz.ntmps149
  go_wp2_with (first|(at_lookup;refine Qh rfl (.tmp 10) (.tmp 11) 177 rfl Tryz.underlying9 Tryz.underlying177 Tryz.underlying3 (Kj _) B n (Qi l) s rfl (by repeat (first|(with_reducible assumption)|refine Jz.alloc ?_|refine Jz.bel ?_ (by with_reducible assumption)|refine Jz.drew ?_)) rfl hs ?_))
  go_wp2_with fail
  go_ret2
  exact⟨by rw [HV.out];rfl,Jb⟩
 | some j=>
  rw [hf] at hv;obtain⟨k,v,rfl,hx,_⟩:=Zi hf;have fR:k<l.length:=(List.getElem?_eq_some_iff.1 hx).1;obtain⟨b,off,rfl,aH,⟨d0,d1,d2,d3⟩⟩:=hl.vars.get hx;simp only [Int.toNat_natCast,hx] at hv;have gz:b<w.heap.size+1:=by omega
  clear hx;have HV:=Lib.hid hv;clear hv
  go_enter Tryz.func149,Tryz.ntmps149
  go_wp2_with (first|(at_lookup;refine Qh rfl (.tmp 10) (.tmp 11) 177 rfl Tryz.underlying9 Tryz.underlying177 Tryz.underlying3 (Kj _) B n (Qi l) s rfl (by repeat (first|(with_reducible assumption)|refine Jz.alloc ?_|refine Jz.bel ?_ (by with_reducible assumption)|refine Jz.drew ?_)) rfl hs ?_))
  go_wp2_with fail
  go_ret2
  exact⟨by rw [HV.out];rfl,Jb⟩
theorem Zd:(Tryz.prog.info? 3).map (fun i=>(i.zero,i.size,i.bytes))=some (some (.int .i64 0),1,8):=by kernel_rfl
theorem Jwm {w:World} {base base':Nat} {e:TypeId} {size n:Nat} {v:Value} {xs:List Value} (h:w.ownsRow base e size v n xs) (hb:base'<=base):w.ownsRow base' e size v n xs:=by
 refine⟨h.1,?_⟩
 rcases h.2 with h2|⟨g,cap,cur,hv,hg,r⟩
 ·exact .inl h2
 ·exact .inr ⟨g,cap,cur,hv,by omega,r⟩
theorem Jvu (e:Ex) (l:List Va) (A:Option Addr) (cap B n:Nat) (Ae:Option Addr) (ce:Nat) (w:World) (he:Jt w e Ae ce) (hl:Jdw w l A cap B n) (h3:e.sub.length<=3)
  (ix:∀x∈e.sub,∀(A':Option Addr) (c':Nat) (W:World),Jt W x A' c'->Jdw W l A cap B n->
   Calls Tryz.prog 139 #[Q6 l A cap B,exV x A' c'] W fun r w'=>r = .returned (.tuple #[.int .i64 (x.typ l).1,.int .i64 (x.typ l).2])/\Below W.heap.size W w') :
  Calls Tryz.prog 148 #[Q6 l A cap B,exV e Ae ce] w fun r w'=>
   (∃v,r = .returned (.tuple #[v,.int .i64 (Ex.typL l e.sub).2])/\w'.ownsRow w.heap.size 3 1 v (Ex.typL l e.sub).1.length ((Ex.typL l e.sub).1.map (Value.int .i64)))/\Below w.heap.size w w':=by
 have ai:=he.len;unfold maxLen at ai;obtain⟨bI,aD⟩:=ai;have hT:=Lib.hid (show Ku [] (Ex.typL l (e.sub.drop 0))=Ex.typL l e.sub from Xq _ (Yb l e.sub));unfold Q6 exV at *
 go_enter Tryz.func148,Tryz.ntmps148
 go_wp2_with fail
 refine Jo fun W0 ag=>?_;have ax:Below w.heap.size w W0:=by rw [ag];exact Jb
 have bD:w.heap.size<W0.heap.size:=by rw [ag];first|omega|(simp;done)|(simp;omega)
 have hz01:w.heap.size+1<W0.heap.size:=by rw [ag];simp
 have l0:W0.cell? ⟨w.heap.size,0,none⟩=some (.slice A l.length cap):=by rw [ag];go_simp
 have l1:W0.cell? ⟨w.heap.size,1,none⟩=some (.map (some B)):=by rw [ag];go_simp
 clear ag;replace he:=he.later ax;replace hl:=hl.later ax
 go_loopw [6,14] (fun v i wr=>∃(k:Nat) (acc:List Int),k<=e.sub.length/\i = .int .i64 k/\acc.length=k/\wr.ownsRow W0.heap.size 3 1 v k (acc.map (Value.int .i64))/\Ku acc (Ex.typL l (e.sub.drop k))=Ex.typL l e.sub/\Below W0.heap.size W0 wr) (fun _ i _=>e.sub.length-(intOf i).toNat)
 case atStart=>exact⟨0,[],Nat.zero_le _,rfl,rfl,World.ownsRow_nil _ _ _ _,hT.out,Below.refl _ _⟩
 case round=>
  obtain⟨k,acc,hk,rfl,aR,ae,aa,ab⟩:=hrel;have hc:=Jg ab;have bu:=ab.size;have af:w.heap.size<wr.heap.size:=by omega
  have br:w.heap.size+1<wr.heap.size:=by omega
  have dt:=Lib.hid aR;clear aR
  by_cases am:k<e.sub.length
  ·obtain⟨x,hx,aj,hd⟩:=Kl am;obtain⟨b,off,A',cap',rfl,c0,c1,c2,c3,hs⟩:=(he.later ab).get hx;rw [hd] at aa;have cw:=ix x aj A' cap'
   cases ew:((x.typ l).2 != 0)
   ·have h0:(x.typ l).2=0:=by simpa using ew
    rw [Yl l acc x _ h0] at aa;have HR:=Lib.hid aa;clear aa hd hx h0
    go_wp2_with (first|(go_at_call 139;refine(cw _ (hs.later Jb) (hl.later Jb)).mono ?_;rintro r w1 ⟨rfl,ac⟩;have ak:=Jg ac;have af:=ac.size;(try simp at af))|(at_builtin;refine Kap rfl (.tmp 27) (.tmp 29) 140 rfl W0.heap.size 3 (.int .i64 0) 1 8 Tryz.underlying140 Zd rfl (by omega) u6 k (acc.map (Value.int .i64)) _ 1 [.int .i64 (x.typ l).1] rfl (by repeat (first|(with_reducible assumption)|refine Js ?_|refine Jy ?_ (by with_reducible assumption)|refine Kp ?_)) rfl rfl (fun j u hj=>by rw [Kw];simpa using hj) (by simp [Value.oneCell']) (by omega) (by omega) (by first|omega|(simp;omega)) ?_;intro v2 w2 ao aq;have br:=aq.size;(try simp at br)))
    go_roundw
    case rel=>exact⟨k+1,acc ++ [(x.typ l).1],by omega,by go_num,by have:=dt.out;simp [this],by rw [List.map_append];exact ao,HR.out,Jb⟩
    case measure=>simp [intOf];omega
   ·have h0:(x.typ l).2≠0:=by simpa using ew
    rw [Yk l acc x _ h0] at aa;have HR:=Lib.hid aa.symm;clear aa hd hx h0
    go_wp2_with (first|(go_at_call 139;refine(cw _ (hs.later Jb) (hl.later Jb)).mono ?_;rintro r w1 ⟨rfl,ac⟩;have ak:=Jg ac;have af:=ac.size;(try simp at af)))
    go_ret2
    exact⟨⟨.slice none 0 0,by rw [HR.out];rfl,by rw [HR.out];exact World.ownsRow_nil _ _ _ _⟩,Jb⟩
  ·obtain rfl:k=e.sub.length:=by omega
   rw [List.drop_length,Ex.typL,Ku,if_pos rfl,List.append_nil] at aa;have HR:=Lib.hid aa.symm;clear aa
   go_wp2_with fail
   go_ret2
   refine⟨⟨_,by rw [HR.out];rfl,?_⟩,Jb⟩;rw [HR.out];have:=dt.out;dsimp only;rw [this];exact Jwm ae (by omega)
theorem Jzk (l:List Va) (e:Ex) (h:(e.typ l).2=0):(e.typ l).1=1\/(e.typ l).1=2:=by
 rw [Ex.typ_eq] at h ⊢
 split at h
 ·rename_i h0;rw [if_pos h0];unfold Y2 at h ⊢
  split at h
  ·simp at h
  ·rename_i h1;rw [if_neg h1];unfold Jbl at h ⊢
   split at h
   ·rename_i h2;rw [if_pos h2];exact h2.2
   ·simp at h
 ·rename_i h0;exact absurd h h0
theorem Jl8 (l:List Va):∀sub:List Ex,(Ex.typL l sub).2=0->∀t∈(Ex.typL l sub).1,t=1\/t=2
 | [],_,t,ht=>by simp [Ex.typL] at ht
 | x :: r,h,t,ht=>by
  simp only [Ex.typL,Ku] at h ht
  split at h
  ·rename_i h0;rw [if_pos h0] at ht
   split at h
   ·rename_i h1;rw [if_pos h1] at ht;simp only [List.singleton_append,List.mem_cons] at ht
    rcases ht with rfl|ht
    ·exact Jzk l x h0
    ·exact Jl8 l r h1 t ht
   ·rename_i h1;exact absurd h h1
  ·rename_i h0;exact absurd h h0
def Q7 (e:Ex) (l:List Va) (A:Option Addr) (cap B:Nat) (Ae:Option Addr) (ce:Nat) (w:World):Prop:=
 ∀W,Below w.heap.size w W->Calls Tryz.prog 148 #[Q6 l A cap B,exV e Ae ce] W fun r w'=>
   (∃v,r = .returned (.tuple #[v,.int .i64 (Ex.typL l e.sub).2])/\w'.ownsRow W.heap.size 3 1 v (Ex.typL l e.sub).1.length ((Ex.typL l e.sub).1.map (Value.int .i64)))/\Below W.heap.size W w'
def Xz (e:Ex) (l:List Va) (A:Option Addr) (cap B:Nat) (w:World):Prop:=
 ∀W,Below w.heap.size w W->Calls Tryz.prog 149 #[Q6 l A cap B,.string e.name] W fun r w'=>r = .returned (.tuple #[.int .i64 (K7 l e.name).1,.bool (K7 l e.name).2])/\Below W.heap.size W w'
theorem Jru (e:Ex):∀(A:Option Addr) (cap:Nat) (most:Int) (w:World),Jt w e A cap->-1000000<=most->most<=1000000->
  Calls Tryz.prog 146 #[exV e A cap,.int .i64 most] w fun r w'=>r = .returned (.int .i64 (e.count most))/\Below w.heap.size w w':=by
 induction e using Ex.ind with
 | h e ih=>
 intro A cap most w he hm cI;have hl:=he.len;unfold maxLen at hl;obtain⟨bI,aD⟩:=hl;unfold exV
 go_enter Tryz.func146,Tryz.ntmps146
 go_wp2_with fail
 refine Jo fun W0 ag=>?_;have ax:Below w.heap.size w W0:=by rw [ag];exact Jb
 have bD:w.heap.size<W0.heap.size:=by rw [ag];simp
 have p3:W0.cell? ⟨w.heap.size,3,none⟩=some (.slice A e.sub.length cap):=by rw [ag];go_simp
 clear ag;replace he:=he.later ax
 go_loopw [5,6] (fun m i wr=>∃(k:Nat) (m':Int),k<=e.sub.length/\i = .int .i64 k/\m = .int .i64 m'/\1<=m'/\m'<=max 1 most/\Ex.countL (e.sub.drop k) m' most=e.count most/\Below W0.heap.size W0 wr) (fun _ i _=>e.sub.length-(intOf i).toNat)
 case atStart=>exact⟨0,1,Nat.zero_le _,rfl,rfl,by omega,by omega,by simp [Ex.count_eq],Below.refl _ _⟩
 case round=>
  obtain⟨k,m',hk,rfl,rfl,h0,h1,aa,ab⟩:=hrel;have hc:=Jg ab;have bu:=ab.size
  by_cases am:k<e.sub.length
  ·obtain⟨x,hx,aj,hd⟩:=Kl am;obtain⟨b,off,A',cap',rfl,c0,c1,c2,c3,hs⟩:=(he.later ab).get hx;rw [hd,Ex.countL] at aa;have ct:=Ex.count_bd x (most-m');have ihx:=ih x aj
   by_cases qK:m'>=most
   ·rw [if_pos qK] at aa;have HR:=Lib.hid aa;clear aa hd hx;have uM:¬m'<most:=by omega
    go_wp2_with fail
    go_ret;exact⟨Jm HR.out,Jb⟩
   ·rw [if_neg qK] at aa;have HR:=Lib.hid aa;clear aa hd hx;have uM:m'<most:=by omega
    go_wp2_with (go_at_call 146;refine(ihx A' cap' (most-m') _ (hs.later Jb) (by omega) (by omega)).mono ?_;rintro r w1 ⟨rfl,ac⟩)
    go_roundw
    case rel=>exact⟨k+1,m'+x.count (most-m'),by omega,by go_num,by go_num,by omega,by omega,HR.out,Jb⟩
    case measure=>simp [intOf];omega
  ·have bk:k=e.sub.length:=by omega
   rw [bk,List.drop_length,Ex.countL] at aa;have HR:=Lib.hid aa;clear aa bk
   go_wp2_with fail
   go_ret;exact⟨Jm HR.out,Jb⟩
theorem Jz.keep1 {P:Program} {k e:TypeId} {w w':World} {b n:Nat} {f:ByteArray->Option Int} (h:Jz P k e w b n f) (hb:w'.heap[b]?=w.heap[b]?):Jz P k e w' b n f:=by
 obtain⟨D,h1,h2,h3⟩:=h;obtain⟨es,clock,hh,F,hs,hD⟩:=h1;exact⟨D,⟨es,clock,hb.trans hh,F,hs,hD⟩,h2,h3⟩
structure Chg (bo B:Nat) (r:Option Nat) (W W':World):Prop where
 os:W'.os=W.os
 tape:W'.tape=W.tape
 output:W'.output=W.output
 size:W.heap.size<=W'.heap.size
 block:∀k,k<W.heap.size->k≠bo->k≠B->some k≠r->W'.heap[k]?=W.heap[k]?
theorem Chg.bel {bo B:Nat} {r:Option Nat} {W W':World} (h:Below W.heap.size W W'):Chg bo B r W W':=⟨h.os,h.tape,h.output,h.size,fun k hk _ _ _=>h.block k hk⟩
theorem Chg.grown {bo B:Nat} {r r':Option Nat} {W W':World} (h:W.grownBy W' r') (hr:r'=some bo\/r'=some B\/r'=r):Chg bo B r W W':=
 ⟨h.os,h.tape,h.output,h.size,fun k hk h1 h2 h3=>h.block k hk fun he=>by
  rcases hr with hr|hr|hr
  ·rw [hr] at he;injection he with he;exact h1 he
  ·rw [hr] at he;injection he with he;exact h2 he
  ·rw [hr] at he;exact h3 he⟩
theorem Chg.trans {bo B:Nat} {r0 r1:Option Nat} {a b c:World} (h1:Chg bo B r0 a b) (h2:Chg bo B r1 b c) (hr:r1=r0\/∀k,r1=some k->a.heap.size<=k):Chg bo B r0 a c:=
 ⟨h2.os.trans h1.os,h2.tape.trans h1.tape,h2.output.trans h1.output,Nat.le_trans h1.size h2.size,fun k hk cW hB aS=>(h2.block k (Nat.lt_of_lt_of_le hk h1.size) cW hB (by
  rcases hr with rfl|hr
  ·exact aS
  ·intro he;have:=hr k he.symm;omega)).trans (h1.block k hk cW hB aS)⟩
theorem Chg.setCell {bo B:Nat} {r:Option Nat} {W W':World} (h:Chg bo B r W W') (o:Nat) (u:Value):Chg bo B r W (W'.setCell ⟨bo,o,none⟩ u):=
 ⟨h.os,h.tape,h.output,by have:=h.size;simpa using this,fun k hk h1 h2 h3=>(heap_setCell_other W' ⟨bo,o,none⟩ k u h1).trans (h.block k hk h1 h2 h3)⟩
theorem Jpa (l:List Va) (A:Option Addr) (cap:Nat) (v:Va) (w:World) (hg:Ql w) (hl:Ju w l A cap) (hn:l.length<=1000000) :
  Calls Tryz.prog 133 #[.slice A l.length cap,vaV v] w fun r w'=>r = .returned (.int .i64 (Yc l v))/\Below w.heap.size w w':=by
 have ap:=fun W h=>Jg9 l A cap v.cn W (hl.later h) hn;have fM:=Jbt;have dp:=fun w=>Zt v.ck v.cn 0 ⟨#[]⟩ w;obtain⟨a0,a1⟩:=hg;have eC:0<w.heap.size:=block_lt_of_cell a0;have hv:Yc l v=if K9 v.ck v.cn 0 ⟨#[]⟩=true then 0 else(match Xb l v.cn with|none=>19|some c=>if c.type≠2 then 20 else if K9 c.ck c.cn 0 ⟨#[]⟩=true then 0 else 21):=by unfold Yc;rfl
 unfold vaV
 cases hq:K9 v.ck v.cn 0 ⟨#[]⟩
 case true=>
  rw [hq,if_pos rfl] at hv;rw [hq] at dp;clear hq;have HV:=Lib.hid hv;clear hv
  go_enter Tryz.func133,Tryz.ntmps133
  go_wp2_with fail
  go_ret;exact⟨Jm HV.out.symm,Jb⟩
 rw [hq,if_neg (by simp)] at hv;rw [hq] at dp;clear hq
 cases hf:Xb l v.cn with
 | none=>
  rw [hf] at hv ap;clear hf;unfold fcV vaV Jh8 at ap;dsimp only at ap;have HV:=Lib.hid hv;clear hv
  go_enter Tryz.func133,Tryz.ntmps133
  go_wp2_with (first|(go_at_call 134;refine(ap _ Jb).mono ?_;rintro r w1 ⟨rfl,ac⟩;have ⟨ak,af⟩:=aft ac;(try simp at af);(try have go:0<w1.heap.size:=by omega)))
  go_ret;exact⟨Jm HV.out.symm,Jb⟩
 | some c=>
  rw [hf] at hv ap;clear hf;unfold fcV vaV at ap;dsimp only at ap hv;have ri:=fun w=>Zt c.ck c.cn 0 ⟨#[]⟩ w
  cases ht:(c.type != 2)
  case true=>
   rw [if_pos (by simpa using ht)] at hv;have HV:=Lib.hid hv;clear hv
   go_enter Tryz.func133,Tryz.ntmps133
   go_wp2_with (first|(go_at_call 134;refine(ap _ Jb).mono ?_;rintro r w1 ⟨rfl,ac⟩;have ⟨ak,af⟩:=aft ac;(try simp at af);(try have go:0<w1.heap.size:=by omega)))
   go_ret;exact⟨Jm HV.out.symm,Jb⟩
  rw [if_neg (by simpa using ht)] at hv
  cases hq:K9 c.ck c.cn 0 ⟨#[]⟩
  ·rw [hq,if_neg (by simp)] at hv;rw [hq] at ri;clear hq;have HV:=Lib.hid hv;clear hv
   go_enter Tryz.func133,Tryz.ntmps133
   go_wp2_with (first|(go_at_call 134;refine(ap _ Jb).mono ?_;rintro r w1 ⟨rfl,ac⟩;have ⟨ak,af⟩:=aft ac;(try simp at af);(try have go:0<w1.heap.size:=by omega)))
   go_ret;exact⟨Jm HV.out.symm,Jb⟩
  ·rw [hq,if_pos rfl] at hv;rw [hq] at ri;clear hq;have HV:=Lib.hid hv;clear hv
   go_enter Tryz.func133,Tryz.ntmps133
   go_wp2_with (first|(go_at_call 134;refine(ap _ Jb).mono ?_;rintro r w1 ⟨rfl,ac⟩;have ⟨ak,af⟩:=aft ac;(try simp at af);(try have go:0<w1.heap.size:=by omega)))
   go_ret;exact⟨Jm HV.out.symm,Jb⟩
end Go.Proofs.YtdgjplldlfeolaaGreatDoor
namespace Go.Proofs.YtdgjplldlfeolaaGreatDoor
open Go.RowKit
theorem Jks:∀(l:List Va) (s:ByteArray) (i:Int),Xf l s i=none->Xb l s=none
 | [],_,_,_=>rfl
 | v :: l,s,i,h=>by
  unfold Xf at h
  split at h
  ·cases h
  ·rename_i hn;rw [Xb,if_neg,Jks l s (i+1) h];rw [Zf];intro he;exact hn (by rw [he])
def Jp (l:List Va) (s:ByteArray):Int:=(Qi l s).getD (-1)
theorem Jgq:∀(l:List Va) (s:ByteArray) (i j:Int),Xf l s i=some j->∃(k:Nat) (v:Va),j=i+k/\l[k]?=some v/\Xb l s=some v
 | [],_,_,_,h=>by simp [Xf] at h
 | v :: l,s,i,j,h=>by
  unfold Xf at h
  by_cases hs:s.data=v.name.data
  ·rw [if_pos hs] at h;have hj:i=j:=by injection h
   have he:v.name=s:=by ext1;exact hs.symm
   exact⟨0,v,by omega,rfl,by rw [Xb,if_pos];rw [he];simp⟩
  ·rw [if_neg hs] at h;obtain⟨k,u,h1,h2,h3⟩:=Jgq l s (i+1) j h;refine⟨k+1,u,by omega,by simpa using h2,?_⟩;rw [Xb,if_neg,h3];rw [Zf];intro he;exact hs (by rw [he])
theorem Y5 (l:List Va) (s:ByteArray):(Jp l s = -1/\Xb l s=none)\/∃(k:Nat) (v:Va),Jp l s=(k:Int)/\l[k]?=some v/\Xb l s=some v:=by
 unfold Jp Qi
 cases h:Xf l s 0 with
 | none=>exact .inl ⟨rfl,Jks l s 0 h⟩
 | some j=>
  obtain⟨k,v,h1,h2,h3⟩:=Jgq l s 0 j h;exact .inr ⟨k,v,by simp only [Option.getD_some];omega,h2,h3⟩
def K4 (k:Int) (s:ByteArray) (c:Int×ByteArray) (i:Nat):Int×ByteArray:=if k=10 then(1+(i:Int),s) else if k=8\/k=9 then(0,⟨#[]⟩) else c
end Go.Proofs.YtdgjplldlfeolaaGreatDoor
