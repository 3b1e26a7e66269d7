/- Lemmas. -/
import Derived.Test.YtdgjplldlfeolaaGreatDoorZ00
import Derived.Test.YtdgjplldlfeolaaGreatDoorRows
import Derived.Laws.OwnMore
import Derived.Deep.RegionLaw
import Derived.Laws.StructEq
import Derived.RegionTactic
import Derived.BigRegion
import Derived.Laws.RangeString
import Derived.Laws.RangeAny
set_option linter.unusedVariables false
set_option linter.unusedSimpArgs false
set_option maxRecDepth 100000
set_option maxHeartbeats 64000000
namespace Go.Proofs.YtdgjplldlfeolaaGreatDoor
open Go.RowKit Go.Sort
theorem Jtn (e:Ex):∀(A:Option Addr) (cap:Nat) (w:World),Jt w e A cap->
  Calls Tryz.prog 46 #[exV e A cap] w fun r w'=>r = .returned (.bool e.formed)/\Below w.heap.size w w':=by
 induction e using Ex.ind with
 | h e ih=>
 intro A cap w he;have hl:=he.len;unfold maxLen at hl;obtain⟨bI,aD⟩:=hl;have hv:=Ex.formed_eq e;unfold Jl at hv;unfold exV
 cases h1:(Jw e.kind).2.2.2.2
 case false=>
   simp only [h1,Bool.false_and] at hv;have HV:=Lib.hid hv;clear hv
   go_enter Tryz.func46,Tryz.ntmps46
   go_wp2_with (first|(go_at_call 87;refine(Jbm _ _).mono ?_;rintro r w1 ⟨rfl,rfl⟩))
   go_ret;exact⟨Jk HV.out.symm,Jb⟩
 cases h2:((e.sub.length:Int) != (Jw e.kind).1)
 case true=>
   simp only [Jgo h2,Bool.false_and,Bool.and_false] at hv;have HV:=Lib.hid hv;clear hv
   go_enter Tryz.func46,Tryz.ntmps46
   go_wp2_with (first|(go_at_call 87;refine(Jbm _ _).mono ?_;rintro r w1 ⟨rfl,rfl⟩))
   go_ret;exact⟨Jk HV.out.symm,Jb⟩
 cases h3:decide (e.n<(Jw e.kind).2.1)
 case true=>
   simp only [h3,Bool.false_and,Bool.and_false,Bool.not_true] at hv;have HV:=Lib.hid hv;clear hv
   go_enter Tryz.func46,Tryz.ntmps46
   go_wp2_with (first|(go_at_call 87;refine(Jbm _ _).mono ?_;rintro r w1 ⟨rfl,rfl⟩))
   go_ret;exact⟨Jk HV.out.symm,Jb⟩
 cases h4:decide ((Jw e.kind).2.2.1<e.n)
 case true=>
   simp only [h4,Bool.false_and,Bool.and_false,Bool.not_true] at hv;have HV:=Lib.hid hv;clear hv
   go_enter Tryz.func46,Tryz.ntmps46
   go_wp2_with (first|(go_at_call 87;refine(Jbm _ _).mono ?_;rintro r w1 ⟨rfl,rfl⟩))
   go_ret;exact⟨Jk HV.out.symm,Jb⟩
 replace hv:e.formed=(((Jw e.kind).2.2.2.1 == Kz e.name) && ((Jw e.kind).2.2.2.1 || e.name.toList.isEmpty) && Ex.formedL e.sub):=by
  rw [hv];simp only [h1,Jgi h2,h3,h4,Bool.not_false,Bool.true_and]
 cases h5:(Jw e.kind).2.2.2.1
 case false=>
  cases h6:Kz e.name
  case true=>
    simp only [h5,h6,Bool.false_beq,Bool.not_true,Bool.false_and] at hv;have HV:=Lib.hid hv;clear hv
    go_enter Tryz.func46,Tryz.ntmps46
    go_wp2_with (first|(go_at_call 87;refine(Jbm _ _).mono ?_;rintro r w1 ⟨rfl,rfl⟩)|(go_at_call 47;refine mo (Qt _ _) fun w1 ac ak af bV=>?_;(try simp at af)))
    go_ret;exact⟨Jk HV.out.symm,Jb⟩
  cases h7:e.name.toList.isEmpty
  case false=>
    simp only [h5,h6,h7,Bool.false_or,Bool.and_false,Bool.false_and] at hv;have HV:=Lib.hid hv;clear hv
    go_enter Tryz.func46,Tryz.ntmps46
    go_wp2_with (first|(go_at_call 87;refine(Jbm _ _).mono ?_;rintro r w1 ⟨rfl,rfl⟩)|(go_at_call 47;refine mo (Qt _ _) fun w1 ac ak af bV=>?_;(try simp at af)))
    go_ret;exact⟨Jk HV.out.symm,Jb⟩
  rw [h5,h6,h7] at hv;have HV:=Lib.hid hv;clear hv
  go_enter Tryz.func46,Tryz.ntmps46
  go_wp2_with (first|(go_at_call 87;refine(Jbm _ _).mono ?_;rintro r w1 ⟨rfl,rfl⟩)|(go_at_call 47;refine mo (Qt _ _) fun w1 ac ak af bV=>?_;(try simp at af)))
  go_loopw [59] (fun i wr=>∃(k:Nat),k<=e.sub.length/\i = .int .i64 k/\Ex.formedL (e.sub.drop k)=e.formed/\Below w.heap.size w wr) (fun i _=>e.sub.length-(intOf i).toNat)
  case atStart=>exact⟨0,Nat.zero_le _,rfl,by rw [HV.out];simp,Jb⟩
  case round=>
   obtain⟨k,hk,rfl,aa,ab⟩:=hrel
   by_cases am:k<e.sub.length
   ·obtain⟨x,hx,aj,hd⟩:=Kl am;obtain⟨b,off,A',cap',rfl,c0,c1,c2,c3,hs⟩:=(he.later ab).get hx;rw [hd,Ex.formedL] at aa;have ihx:=ih x aj
    cases ew:x.formed
    ·rw [ew,Bool.false_and] at aa;have HR:=Lib.hid aa;clear aa hd hx
     go_wp2_with (go_at_call 46;refine(ihx A' cap' _ (hs.later Jb)).mono ?_;rintro r w2 ⟨rfl,aq⟩)
     go_ret;exact⟨Jk HR.out,Jb⟩
    ·rw [ew,Bool.true_and] at aa;have HR:=Lib.hid aa;clear aa hd hx
     go_wp2_with (go_at_call 46;refine(ihx A' cap' _ (hs.later Jb)).mono ?_;rintro r w2 ⟨rfl,aq⟩)
     go_roundw
     case rel=>exact⟨k+1,by omega,by go_num,HR.out,Jb⟩
     case measure=>simp [intOf];omega
   ·have bk:k=e.sub.length:=by omega
    rw [bk,List.drop_length] at aa;rw [Ex.formedL] at aa;have HR:=Lib.hid aa;clear aa bk
    go_wp2_with fail
    go_ret;exact⟨Jk HR.out,Jb⟩
 case true=>
  cases h6:Kz e.name
  case false=>
    simp only [h5,h6,Bool.true_beq,Bool.false_and] at hv;have HV:=Lib.hid hv;clear hv
    go_enter Tryz.func46,Tryz.ntmps46
    go_wp2_with (first|(go_at_call 87;refine(Jbm _ _).mono ?_;rintro r w1 ⟨rfl,rfl⟩)|(go_at_call 47;refine mo (Qt _ _) fun w1 ac ak af bV=>?_;(try simp at af)))
    go_ret;exact⟨Jk HV.out.symm,Jb⟩
  rw [h5,h6] at hv;have HV:=Lib.hid hv;clear hv
  go_enter Tryz.func46,Tryz.ntmps46
  go_wp2_with (first|(go_at_call 87;refine(Jbm _ _).mono ?_;rintro r w1 ⟨rfl,rfl⟩)|(go_at_call 47;refine mo (Qt _ _) fun w1 ac ak af bV=>?_;(try simp at af)))
  go_loopw [59] (fun i wr=>∃(k:Nat),k<=e.sub.length/\i = .int .i64 k/\Ex.formedL (e.sub.drop k)=e.formed/\Below w.heap.size w wr) (fun i _=>e.sub.length-(intOf i).toNat)
  case atStart=>exact⟨0,Nat.zero_le _,rfl,by rw [HV.out];simp,Jb⟩
  case round=>
   obtain⟨k,hk,rfl,aa,ab⟩:=hrel
   by_cases am:k<e.sub.length
   ·obtain⟨x,hx,aj,hd⟩:=Kl am;obtain⟨b,off,A',cap',rfl,c0,c1,c2,c3,hs⟩:=(he.later ab).get hx;rw [hd,Ex.formedL] at aa;have ihx:=ih x aj
    cases ew:x.formed
    ·rw [ew,Bool.false_and] at aa;have HR:=Lib.hid aa;clear aa hd hx
     go_wp2_with (go_at_call 46;refine(ihx A' cap' _ (hs.later Jb)).mono ?_;rintro r w2 ⟨rfl,aq⟩)
     go_ret;exact⟨Jk HR.out,Jb⟩
    ·rw [ew,Bool.true_and] at aa;have HR:=Lib.hid aa;clear aa hd hx
     go_wp2_with (go_at_call 46;refine(ihx A' cap' _ (hs.later Jb)).mono ?_;rintro r w2 ⟨rfl,aq⟩)
     go_roundw
     case rel=>exact⟨k+1,by omega,by go_num,HR.out,Jb⟩
     case measure=>simp [intOf];omega
   ·have bk:k=e.sub.length:=by omega
    rw [bk,List.drop_length] at aa;rw [Ex.formedL] at aa;have HR:=Lib.hid aa;clear aa bk
    go_wp2_with fail
    go_ret;exact⟨Jk HR.out,Jb⟩
theorem Jnc (e:Ex) (A:Option Addr) (cap:Nat) (w:World) (he:Jt w e A cap) :
  Calls Tryz.prog 21 #[exV e A cap] w fun r w'=>r = .returned (.int .i64 e.right)/\Below w.heap.size w w':=by
 have hv:e.right=if 120<e.count 121 then 3 else if 12<e.depth then 17 else if e.formed then 0 else 4:=rfl;have fB:=fun W h=>Jt2 e A cap 121 W (he.later h) (by omega) (by omega)
 by_cases h1:120<e.count 121
 ·rw [if_pos h1] at hv;have HV:=Lib.hid hv;clear hv;unfold exV at fB ⊢
  go_enter Tryz.func21,Tryz.ntmps21
  go_wp2_with (first|(go_at_call 44;refine mo (fB _ Jb) fun w1 ac ak af bV=>?_;(try simp at af)))
  go_ret;exact⟨Jm HV.out.symm,Jb⟩
 rw [if_neg h1] at hv;have cE:=Ex.count_size e 121 (by omega);have gY:=fun W h=>Juy e A cap W (he.later h) (by omega);clear cE
 by_cases h2:12<e.depth
 ·rw [if_pos h2] at hv;have HV:=Lib.hid hv;clear hv;unfold exV at fB gY ⊢
  go_enter Tryz.func21,Tryz.ntmps21
  go_wp2_with (first|(go_at_call 44;refine mo (fB _ Jb) fun w1 ac ak af bV=>?_;(try simp at af))|(go_at_call 45;refine mo (gY _ Jb) fun w1 ac ak af bV=>?_;(try simp at af)))
  go_ret;exact⟨Jm HV.out.symm,Jb⟩
 rw [if_neg h2] at hv;have iC:=fun W h=>Jtn e A cap W (he.later h)
 cases h3:e.formed
 ·rw [h3,if_neg (by simp)] at hv;have HV:=Lib.hid hv;clear hv;unfold exV at fB gY iC ⊢
  go_enter Tryz.func21,Tryz.ntmps21
  go_wp2_with (first|(go_at_call 44;refine mo (fB _ Jb) fun w1 ac ak af bV=>?_;(try simp at af))|(go_at_call 45;refine mo (gY _ Jb) fun w1 ac ak af bV=>?_;(try simp at af))|(go_at_call 46;refine mo (iC _ Jb) fun w1 ac ak af bV=>?_;(try simp at af)))
  go_ret;exact⟨Jm HV.out.symm,Jb⟩
 ·rw [h3,if_pos rfl] at hv;have HV:=Lib.hid hv;clear hv;unfold exV at fB gY iC ⊢
  go_enter Tryz.func21,Tryz.ntmps21
  go_wp2_with (first|(go_at_call 44;refine mo (fB _ Jb) fun w1 ac ak af bV=>?_;(try simp at af))|(go_at_call 45;refine mo (gY _ Jb) fun w1 ac ak af bV=>?_;(try simp at af))|(go_at_call 46;refine mo (iC _ Jb) fun w1 ac ak af bV=>?_;(try simp at af)))
  go_ret;exact⟨Jm HV.out.symm,Jb⟩
theorem Zq:(Tryz.prog.info? 9).map (fun i=>(i.zero,i.size,i.bytes))=some (some (.string ⟨#[]⟩),1,16):=by kernel_rfl
theorem Jv4 (n:Int) (w:World):Calls Tryz.prog 53 #[.int .i32 n] w fun r w'=>r = .returned (.string (Ja6 n))/\w=w':=by
 go_enter Tryz.func53,Tryz.ntmps53
 go_wp2_with fail
 all_goals (go_ret;exact⟨Kk (by simp_all [Ja6]),rfl⟩)
theorem Jyv {e:Ex} (hs:e.showB.size<=100000000) {A:Option Addr} {cap:Nat} {w:World} (he:Jt w e A cap)
  (bY:∀W,Jt W e A cap->Calls Tryz.prog 25 #[exV e A cap] W fun r w'=>r = .returned (.string e.showB)/\Below W.heap.size W w') :
  Calls Tryz.prog 51 #[exV e A cap] w fun r w'=>r = .returned (.string e.partB)/\Below w.heap.size w w':=by
 have hl:=he.len;unfold maxLen at hl;have hv:e.partB=brk e.kind e.showB:=rfl;unfold brk at hv;have az:=fun W h=>bY W (he.later h);unfold exV at az ⊢
 by_cases hk:e.kind=1\/e.kind=2\/e.kind=3\/e.kind=8\/e.kind=9
 ·rw [if_pos hk] at hv;have HV:=Lib.hid hv;clear hv
  rcases hk with hk|hk|hk|hk|hk
  ·have k1:(e.kind == 1)=true:=by rw [hk];rfl
   clear hk
   go_enter Tryz.func51,Tryz.ntmps51
   go_wp2_with (first|(go_at_call 25;refine mo (az _ Jb) fun w1 ac ak af bV=>?_;(try simp at af)))
   go_ret;exact⟨Kk HV.out.symm,Jb⟩
  ·have k1:(e.kind == 1)=false:=by rw [hk];rfl
   have k2:(e.kind == 2)=true:=by rw [hk];rfl
   clear hk
   go_enter Tryz.func51,Tryz.ntmps51
   go_wp2_with (first|(go_at_call 25;refine mo (az _ Jb) fun w1 ac ak af bV=>?_;(try simp at af)))
   go_ret;exact⟨Kk HV.out.symm,Jb⟩
  ·have k1:(e.kind == 1)=false:=by rw [hk];rfl
   have k2:(e.kind == 2)=false:=by rw [hk];rfl
   have k3:(e.kind == 3)=true:=by rw [hk];rfl
   clear hk
   go_enter Tryz.func51,Tryz.ntmps51
   go_wp2_with (first|(go_at_call 25;refine mo (az _ Jb) fun w1 ac ak af bV=>?_;(try simp at af)))
   go_ret;exact⟨Kk HV.out.symm,Jb⟩
  ·have k1:(e.kind == 1)=false:=by rw [hk];rfl
   have k2:(e.kind == 2)=false:=by rw [hk];rfl
   have k3:(e.kind == 3)=false:=by rw [hk];rfl
   have k8:(e.kind == 8)=true:=by rw [hk];rfl
   clear hk
   go_enter Tryz.func51,Tryz.ntmps51
   go_wp2_with (first|(go_at_call 25;refine mo (az _ Jb) fun w1 ac ak af bV=>?_;(try simp at af)))
   go_ret;exact⟨Kk HV.out.symm,Jb⟩
  ·have k1:(e.kind == 1)=false:=by rw [hk];rfl
   have k2:(e.kind == 2)=false:=by rw [hk];rfl
   have k3:(e.kind == 3)=false:=by rw [hk];rfl
   have k8:(e.kind == 8)=false:=by rw [hk];rfl
   have k9:(e.kind == 9)=true:=by rw [hk];rfl
   clear hk
   go_enter Tryz.func51,Tryz.ntmps51
   go_wp2_with (first|(go_at_call 25;refine mo (az _ Jb) fun w1 ac ak af bV=>?_;(try simp at af)))
   go_ret;exact⟨Kk HV.out.symm,Jb⟩
 ·rw [if_neg hk] at hv;have HV:=Lib.hid hv;clear hv;have k1:(e.kind == 1)=false:=by simp;omega
  have k2:(e.kind == 2)=false:=by simp;omega
  have k3:(e.kind == 3)=false:=by simp;omega
  have k8:(e.kind == 8)=false:=by simp;omega
  have k9:(e.kind == 9)=false:=by simp;omega
  go_enter Tryz.func51,Tryz.ntmps51
  go_wp2_with (first|(go_at_call 25;refine mo (az _ Jb) fun w1 ac ak af bV=>?_;(try simp at af)))
  go_ret;exact⟨Kk HV.out.symm,Jb⟩
def X6 (w:World) (A:Option Addr) (m size:Nat) (news:List Value):Prop:=
 news.length=m * size/\(0<m->∃b off,A=some ⟨b,off,none⟩/\∀j u,news[j]?=some u->w.cell? ⟨b,off+j,none⟩=some u)
section
variable {P:Program} {w:World}
theorem Jju (base:Nat) (t ty e:TypeId) (i:TypeInfo) (size:Nat) (ht:P.underlying t=some (.slice e)) (hi:P.info? e=some i) (v:Value) (n:Nat) (xs:List Value) (ae:w.ownsRow base e size v n xs) (c:Nat) :
  (Builtin.append_ #[t,t] ty #[v,.slice none 0 c]).run P w = .ok v w:=by
 rcases ae.2 with ⟨rfl,rfl⟩|⟨g,cap,cur,rfl,_,_,xz,_⟩
 ·simp [Builtin.append_,run_underlying ht,sizeOf,typeInfo,hi,Builtin.lenOf,Builtin.firstCells]
 ·simp [Builtin.append_,run_underlying ht,sizeOf,typeInfo,hi,Builtin.lenOf,Builtin.firstCells,xz,storeCells]
theorem Jxt (base:Nat) (t ty e:TypeId) (z:Value) (size bytes:Nat) (ht:P.underlying t=some (.slice e)) (hi:(P.info? e).map (fun i=>(i.zero,i.size,i.bytes))=some (some z,size,bytes))
  (gH:z.cells.size=size) (cE:0<size) (v:Value) (n:Nat) (xs:List Value) (ae:w.ownsRow base e size v n xs) (A:Option Addr) (m c:Nat) (news:List Value)
  (hc:X6 w A m size news) (h1:∀u∈news,u.oneCell'=true) (hn:n+m<=100000000) (hb:bytes<=1000) (aK:base<=w.heap.size) :
  ∃v' w',(Builtin.append_ #[t,t] ty #[v,.slice A m c]).run P w = .ok v' w'/\w'.ownsRow base e size v' (n+m) (xs ++ news)/\Below base w w':=by
 obtain⟨i,kF,bD,af,br⟩:=info_parts hi;obtain⟨hl,ah⟩:=hc
 have main:∀ad,A=some ad->(∀j u,news[j]?=some u->w.cell? (ad.add j)=some u)->∃v' w',(Builtin.append_ #[t,t] ty #[v,.slice A m c]).run P w = .ok v' w'/\w'.ownsRow base e size v' (n+m) (xs ++ news)/\Below base w w':=by
  rintro ad rfl hj;obtain⟨v',w',hr,h2,h3,_⟩:=run_append_own w base t ty e i z size bytes ht kF bD af br gH cE v n xs ae ad m c news hl hj h1 (by unfold maxLen;omega) (Nat.le_trans (Nat.mul_le_mul hn hb) (by omega)) aK;refine⟨v',w',hr,h2,⟨h3.os,h3.tape,h3.output,h3.size,fun k hk=>h3.block k (by omega) fun dz=>?_⟩⟩;have:=(ae.lt k dz.symm).1;omega
 rcases Nat.eq_zero_or_pos m with rfl|hm
 ·have:news = []:=List.eq_nil_of_length_eq_zero (by simpa using hl);subst this
  cases A with
  | none=>exact⟨v,w,Jju base t ty e i size ht kF v n xs ae c,by simpa using ae,Below.refl _ _⟩
  | some ad=>exact main ad rfl (fun j u hj=>by simp at hj)
 ·obtain⟨b,off,rfl,hj⟩:=ah hm;refine main _ rfl fun j u hu=>?_;have cQ:(⟨b,off,none⟩:Addr).add j=⟨b,off+j,none⟩:=by unfold Addr.add;split <;> simp_all
  rw [cQ];exact hj j u hu
theorem Jur {o:Oper} {a:Act} {K:Act->World->Prop} {Q:Exit->Act->World->Prop} (s x:Operand) (t:TypeId)
  (ho:o.op = .call {callee:= .builtin .append,args:=#[s,x],argTypes:=#[t,t]})
  (base:Nat) (e:TypeId) (z:Value) (size bytes:Nat) (ht:P.underlying t=some (.slice e)) (hi:(P.info? e).map (fun i=>(i.zero,i.size,i.bytes))=some (some z,size,bytes))
  (gH:z.cells.size=size) (cE:0<size) (v:Value) (n:Nat) (xs:List Value) (A:Option Addr) (m c:Nat) (news:List Value) (hs:a.eval s=v) (ae:w.ownsRow base e size v n xs)
  (hx:a.eval x = .slice A m c) (hc:X6 w A m size news) (h1:∀u∈news,u.oneCell'=true) (hn:n+m<=100000000) (hb:bytes<=1000) (aK:base<=w.heap.size)
  (h:∀v' w',w'.ownsRow base e size v' (n+m) (xs ++ news)->Below base w w'->K (a.put o.dst v') w'):o.wp P a w K Q:=by
 obtain⟨v',w',hr,h2,h3⟩:=Jxt (P:=P) base t o.type e z size bytes ht hi gH cE v n xs ae A m c news hc h1 hn hb aK;unfold Oper.wp execOp;simp only [ho,resolve,invoke,builtin,Sem.run_bind,Sem.run_pure,Result.andThen_ok,List.map_toArray,List.map_cons,List.map_nil,hs,hx,hr];exact h v' w' h2 h3
theorem K6 {ops:Array Oper} {rest:List Oper} {o:Oper} {a:Act} {Q:Exit->Act->World->Prop} (oL:o.guard=none) (s x:Operand) (t:TypeId)
  (ho:o.op = .call {callee:= .builtin .append,args:=#[s,x],argTypes:=#[t,t]})
  (base:Nat) (e:TypeId) (z:Value) (size bytes:Nat) (ht:P.underlying t=some (.slice e)) (hi:(P.info? e).map (fun i=>(i.zero,i.size,i.bytes))=some (some z,size,bytes))
  (gH:z.cells.size=size) (cE:0<size) (v:Value) (n:Nat) (xs:List Value) (A:Option Addr) (m c:Nat) (news:List Value) (hs:a.eval s=v) (ae:w.ownsRow base e size v n xs)
  (hx:a.eval x = .slice A m c) (hc:X6 w A m size news) (h1:∀u∈news,u.oneCell'=true) (hn:n+m<=100000000) (hb:bytes<=1000) (aK:base<=w.heap.size)
  (h:∀v' w',w'.ownsRow base e size v' (n+m) (xs ++ news)->Below base w w'->wpList P ops Q rest (a.put o.dst v') w'):wpList P ops Q (o :: rest) a w:=
 wpList_plain oL fun _ hK=>Jur s x t ho base e z size bytes ht hi gH cE v n xs A m c news hs ae hx hc h1 hn hb aK fun v' w' h2 h3=>hK _ _ (h v' w' h2 h3)
theorem Jg1 {ops:Array Oper} {o:Oper} {a:Act} {K:Act->World->Prop} {Q:Exit->Act->World->Prop} {E:Prop} (oL:o.guard=none) (s x:Operand) (t:TypeId)
  (ho:o.op = .call {callee:= .builtin .append,args:=#[s,x],argTypes:=#[t,t]})
  (base:Nat) (e:TypeId) (z:Value) (size bytes:Nat) (ht:P.underlying t=some (.slice e)) (hi:(P.info? e).map (fun i=>(i.zero,i.size,i.bytes))=some (some z,size,bytes))
  (gH:z.cells.size=size) (cE:0<size) (v:Value) (n:Nat) (xs:List Value) (A:Option Addr) (m c:Nat) (news:List Value) (hs:a.eval s=v) (ae:w.ownsRow base e size v n xs)
  (hx:a.eval x = .slice A m c) (hc:X6 w A m size news) (h1:∀u∈news,u.oneCell'=true) (hn:n+m<=100000000) (hb:bytes<=1000) (aK:base<=w.heap.size)
  (h:∀v' w',w'.ownsRow base e size v' (n+m) (xs ++ news)->Below base w w'->K (a.put o.dst v') w'):if Region.wanted o (yielded ops a.tmps)=true then Oper.wp P o a w K Q else E:=by
 have hw:Region.wanted o (yielded ops a.tmps)=true:=by simp [Region.wanted,oL]
 rw [if_pos hw];exact Jur s x t ho base e z size bytes ht hi gH cE v n xs A m c news hs ae hx hc h1 hn hb aK h
end
def vaC (v:Va):List Value:=[.string v.name,.int .i64 v.type,.int .i64 v.ck,.string v.cn]
def Xe (l:List Va):List Value:=l.flatMap vaC
theorem Jwi (l:List Va):(Xe l).length=l.length * 4:=by
 induction l with
 | nil=>rfl
 | cons v l ih=>rw [Xe,List.flatMap_cons,List.length_append,<-Xe,ih];simp [vaC];omega
theorem Jor:∀(l:List Va) (j:Nat) (u:Value),(Xe l)[j]?=some u->∃v,l[j / 4]?=some v/\(vaC v)[j % 4]?=some u
 | [],j,u,h=>by simp [Xe] at h
 | v :: l,j,u,h=>by
  rw [Xe,List.flatMap_cons,<-Xe] at h
  rcases Nat.lt_or_ge j 4 with hj|hj
  ·rw [List.getElem?_append_left (by simpa [vaC] using hj)] at h;refine⟨v,?_,?_⟩
   ·rw [Nat.div_eq_of_lt hj];rfl
   ·rw [Nat.mod_eq_of_lt hj];exact h
  ·rw [List.getElem?_append_right (by simpa [vaC] using hj)] at h;have ai:(vaC v).length=4:=rfl;rw [ai] at h;obtain⟨x,h1,h2⟩:=Jor l (j-4) u h;refine⟨x,?_,?_⟩
   ·rw [show j / 4=(j-4) / 4+1 from by omega];simpa using h1
   ·rw [show j % 4=(j-4) % 4 from by omega];exact h2
theorem Jrh (l:List Va) (k:Nat) (v:Va) (h:l[k]?=some v) (i:Nat) (u:Value) (hu:(vaC v)[i]?=some u):(Xe l)[k * 4+i]?=some u:=by
 induction l generalizing k with
 | nil=>simp at h
 | cons x l ih=>
  rw [Xe,List.flatMap_cons,<-Xe]
  have hi:i<4:=by
   have:=(List.getElem?_eq_some_iff.1 hu).1;simpa [vaC] using this
  cases k with
  | zero=>
   simp at h;subst h;rw [List.getElem?_append_left (by simp [vaC];omega)];simpa using hu
  | succ k=>
   rw [List.getElem?_append_right (by simp [vaC];omega)];have ai:(vaC x).length=4:=rfl;rw [ai,show(k+1) * 4+i-4=k * 4+i from by omega];exact ih k (by simpa using h)
theorem Jbg (l:List Va):∀u∈Xe l,u.oneCell'=true:=by
 intro u hu;obtain⟨v,_,hv⟩:=List.mem_flatMap.1 hu;simp [vaC] at hv
 rcases hv with rfl|rfl|rfl|rfl <;> rfl
theorem Ju.cells {w:World} {l:List Va} {A:Option Addr} {cap:Nat} (h:Ju w l A cap):X6 w A l.length 4 (Xe l):=by
 refine⟨Jwi l,fun hl=>?_⟩;obtain⟨b,off,hA,hr⟩:=h.2.2 hl;refine⟨b,off,hA,fun j u hj=>?_⟩;obtain⟨v,h1,h2⟩:=Jor l j u hj;obtain⟨d0,d1,d2,d3⟩:=hr _ _ h1;have fb:off+j=off+j / 4 * 4+j % 4:=by omega
 rw [fb];have hm:j % 4<4:=Nat.mod_lt _ (by omega);generalize j % 4=i at h2 hm
 match i,hm,h2 with
 | 0,_,h2=>simp [vaC] at h2;subst h2;exact d0
 | 1,_,h2=>simp [vaC] at h2;subst h2;exact d1
 | 2,_,h2=>simp [vaC] at h2;subst h2;exact d2
 | 3,_,h2=>simp [vaC] at h2;subst h2;exact d3
theorem Ju.of_own {w:World} {base:Nat} {e:TypeId} {l:List Va} {A:Option Addr} {cap:Nat} (h:w.ownsRow base e 4 (.slice A l.length cap) l.length (Xe l)):Ju w l A cap:=by
 rcases Nat.eq_zero_or_pos l.length with h0|h0
 ·obtain⟨A',c',hv,h1,h2⟩:=Jv h;injection hv with e1 e2 e3;subst e3;exact⟨h1,h2,fun hl=>absurd hl (by omega)⟩
 ·obtain⟨g,c',hv,_,_,h1,h2,hc⟩:=Kc h h0;injection hv with e1 e2 e3;subst e1 e3;refine⟨h1,h2,fun _=>⟨g,0,rfl,fun k v hk=>?_⟩⟩;have ha:=fun i u hu=>hc _ _ (Jrh l k v hk i u hu);rw [Nat.zero_add];exact⟨ha 0 _ rfl,ha 1 _ rfl,ha 2 _ rfl,ha 3 _ rfl⟩
theorem Kj (w:World):(zeroValue 3).run Tryz.prog w = .ok (.int .i64 0) w:=by kernel_rfl
end Go.Proofs.YtdgjplldlfeolaaGreatDoor
namespace Go.Proofs.YtdgjplldlfeolaaGreatDoor
open Go.RowKit
def Xf:List Va->ByteArray->Int->Option Int
 | [],_,_=>none
 | v :: l,s,i=>if s.data=v.name.data then some i else Xf l s (i+1)
theorem Jli:∀ {l:List Va} {s:ByteArray} {i j:Int},Xf l s i=some j->∃k v,j=i+(k:Nat)/\l[k]?=some v/\v.name=s
 | [],_,_,_,h=>by simp [Xf] at h
 | v :: l,s,i,j,h=>by
  unfold Xf at h
  split at h
  ·rename_i hs;simp at h;exact⟨0,v,by simp [h],rfl,by ext1;exact hs.symm⟩
  ·obtain⟨k,u,h1,h2,h3⟩:=Jli h;exact⟨k+1,u,by omega,by simpa using h2,h3⟩
def Qi (l:List Va) (s:ByteArray):Option Int:=Xf l s 0
theorem Zi {l:List Va} {s:ByteArray} {j:Int} (h:Qi l s=some j):∃(k:Nat) (v:Va),j=k/\l[k]?=some v/\v.name=s:=by
 obtain⟨k,v,h1,h2,h3⟩:=Jli h;exact⟨k,v,by omega,h2,h3⟩
def K7 (l:List Va) (s:ByteArray):Int×Bool:=
 match Qi l s with
 | none=>(0,false)
 | some j=>(match l[j.toNat]? with|some v=>v.type|none=>0,true)
def Jcg (op t:Int):Int×Bool:=
 if op=8\/op=9\/op=10 then(t,true)
 else if op=11\/op=12 then(2,true)
 else if op=13\/op=14\/op=15\/op=16 then(2,t == 1)
 else(1,t == 1)
def Je3 (k n named:Int) (ts:List Int):Int×Bool:=
 if k=1 then(1,true)
 else if k=2 then(2,true)
 else if k=3 then(named,true)
 else if k=4 then(ts.getD 0 0,(ts.getD 0 0 == 1 && n == 1) || (ts.getD 0 0 == 2 && n == 2))
 else if k=5 then((Jcg n (ts.getD 0 0)).1,(Jcg n (ts.getD 0 0)).2 && ts.getD 0 0 == ts.getD 1 0)
 else if k=6 then(ts.getD 1 0,ts.getD 0 0 == 2 && ts.getD 1 0 == ts.getD 2 0)
 else if k=7 then(ts.getD 0 0,ts.getD 0 0 == ts.getD 1 0)
 else if k=8\/k=9 then(ts.getD 0 0,named == 2)
 else if k=10 then(ts.getD 0 0,named == 2 && ts.getD 0 0 == ts.getD 1 0)
 else(0,true)
def Jbl (out:Int) (ok:Bool):Int×Int:=if ok=true/\(out=1\/out=2) then(out,0) else(0,20)
def Y2 (l:List Va) (k n:Int) (s:ByteArray) (ts:List Int):Int×Int:=
 if s.toList.isEmpty=false/\(K7 l s).2=false then(0,19) else Jbl (Je3 k n (K7 l s).1 ts).1 (Je3 k n (K7 l s).1 ts).2
def Ku (acc:List Int) (r:List Int×Int):List Int×Int:=if r.2=0 then(acc ++ r.1,0) else([],r.2)
namespace Ex
mutual
def typ (l:List Va):Ex->Int×Int
 | mk k n s sub=>if (typL l sub).2=0 then Y2 l k n s (typL l sub).1 else(0,(typL l sub).2)
def typL (l:List Va):List Ex->List Int×Int
 | []=>([],0)
 | x :: r=>if (typ l x).2=0 then Ku [(typ l x).1] (typL l r) else([],(typ l x).2)
end
theorem typ_eq (l:List Va) (e:Ex):e.typ l=if (typL l e.sub).2=0 then Y2 l e.kind e.n e.name (typL l e.sub).1 else(0,(typL l e.sub).2):=by cases e;rw [typ];rfl
end Ex
theorem Xq (r:List Int×Int) (h:r.2≠0->r.1 = []):Ku [] r=r:=by
 unfold Ku
 split
 ·simp;ext1 <;> simp [*]
 ·rename_i h2;ext1 <;> simp [h h2]
theorem Yb (l:List Va) (sub:List Ex):(Ex.typL l sub).2≠0->(Ex.typL l sub).1 = []:=by
 cases sub with
 | nil=>simp [Ex.typL]
 | cons x r=>
  simp only [Ex.typL,Ku]
  repeat' split
  all_goals simp_all
theorem Yl (l:List Va) (acc:List Int) (x:Ex) (r:List Ex) (h:(x.typ l).2=0):Ku acc (Ex.typL l (x :: r))=Ku (acc ++ [(x.typ l).1]) (Ex.typL l r):=by
 simp only [Ex.typL,if_pos h,Ku]
 repeat' split
 all_goals simp_all
theorem Yk (l:List Va) (acc:List Int) (x:Ex) (r:List Ex) (h:(x.typ l).2≠0):Ku acc (Ex.typL l (x :: r))=([],(x.typ l).2):=by
 simp only [Ex.typL,if_neg h,Ku]
theorem Jj4 (l:List Va):∀sub:List Ex,(Ex.typL l sub).2=0->(Ex.typL l sub).1.length=sub.length
 | [],_=>by simp [Ex.typL]
 | x :: r,h=>by
  have ih:=Jj4 l r;simp only [Ex.typL,Ku] at h ⊢
  repeat' split at h
  all_goals simp_all
def Je (p:Pr):List Va:=p.ins ++ p.outs ++ p.locals
end Go.Proofs.YtdgjplldlfeolaaGreatDoor
namespace Go.Proofs.YtdgjplldlfeolaaGreatDoor
open Go.RowKit Go.Sort
theorem Jiz (a b:Int) (w:World) :
  Calls Tryz.prog 150 #[.int .i32 a,.int .i64 b] w fun e w'=>e = .returned (.tuple #[.int .i64 (Jcg a b).1,.bool (Jcg a b).2])/\w=w':=by
 go_enter Tryz.func150,Tryz.ntmps150
 go_wp2_with fail
 all_goals (go_ret2;exact⟨by simp_all [Jcg],rfl⟩)
def Jfs (l:List Va) (k:Nat):ByteArray->Option Int:=fun s=>Xf (l.drop k) s k
theorem Jse {l:List Va} {k:Nat} {v:Va} (h:l[k]?=some v):upd (Jfs l (k+1)) v.name k=Jfs l k:=by
 funext s
 unfold upd Jfs;have am:k<l.length:=(List.getElem?_eq_some_iff.1 h).1
 have hd:l.drop k=v :: l.drop (k+1):=by
  rw [List.drop_eq_getElem_cons am];have:l[k]=v:=(List.getElem?_eq_some_iff.1 h).2;rw [this]
 rw [hd,Xf];rfl
theorem Jvv (n:Int) (w:World):(Instr.makeMap 177 (some (.int .i64 n))).run Tryz.prog w = .ok (.map (some w.heap.size)) (w.alloc (.map #[] 0)):=by
 have hu:Tryz.prog.underlying 177=some (.map 9 3):=Tryz.underlying177;simp only [Instr.makeMap,Sem.run_bind,run_underlying hu,Result.andThen];rfl
theorem Jnu {w a b:World} {g:Nat} (h:Below w.heap.size w a) (hg:a.grownBy b (some g)) (hw:w.heap.size<=g):Below w.heap.size w b:=
 h.grown hg h.size (fun k hk=>by injection hk with hk;omega)
theorem Jtr (l:List Va) (A:Option Addr) (cap:Nat) (hs:∀v∈l,v.name.size<=maxLen) (hn:l.length<=1000000) (w:World) (hl:Ju w l A cap) :
  Calls Tryz.prog 138 #[.slice A l.length cap] w fun r w'=>(∃B,r = .returned (.map (some B))/\w.heap.size<=B/\Jz Tryz.prog 9 3 w' B l.length (Qi l))/\Below w.heap.size w w':=by
 have aD:=hl.len;unfold maxLen at aD;obtain⟨fD,cG⟩:=aD;have jH:=Jvv (l.length:Int);have cP:Jfs l l.length=fun _=>none:=by funext s;simp [Jfs,Xf]
 have cJ:=Lib.hid cP;clear cP
 go_enter Tryz.func138,Tryz.ntmps138
 go_wp2_with fail
 go_loopw [4] (fun i wr=>∃k:Nat,k<=l.length/\i = .int .i64 ((k:Int)-1)/\Jz Tryz.prog 9 3 wr w.heap.size (l.length-k) (Jfs l k)/\Below w.heap.size w wr) (fun i _=>(intOf i+1).toNat)
 case atStart=>exact⟨l.length,Nat.le_refl _,rfl,by rw [cJ.out,Nat.sub_self];exact Jz.made w,Jb⟩
 case round=>
  obtain⟨k,hk,rfl,hm,ab⟩:=hrel
  by_cases am:0<k
  ·obtain⟨j,rfl⟩:∃j,k=j+1:=⟨k-1,by omega⟩;have mX:j<l.length:=by omega
   have hx:l[j]?=some l[j]:=List.getElem?_eq_getElem mX;generalize l[j]=x at hx;obtain⟨b,off,rfl,aH,⟨d0,d1,d2,d3⟩⟩:=(hl.later ab).get hx;have cE:=hs x (List.mem_of_getElem? hx);have sP:=Jse hx;have zj:=Lib.hid sP;clear sP hx;have wP:((j+1:Nat):Int)-1=j:=by omega
   rw [wP];have nn:(0:Int)<=j:=by omega
   go_wp2_with (at_mapUpdate;refine Jau rfl (.tmp 15) (.tmp 20) (.tmp 21) 177 rfl Tryz.underlying9 Tryz.underlying177 Tryz.underlying3 w.heap.size _ _ x.name j rfl hm (by omega) rfl rfl cE (by omega) ?_;intro w2 cI aG)
   rw [zj.out] at cI
   go_wp2_with fail
   go_roundw
   case rel=>exact⟨j,by omega,by first|rfl|go_num,by rw [show l.length-j=l.length-(j+1)+1 from by omega];exact cI,Jnu ab aG (Nat.le_refl _)⟩
   case measure=>first|(simp [intOf];done)|(simp [intOf];omega)
  ·obtain rfl:k=0:=by omega
   have hf:Jfs l 0=Qi l:=by funext s;simp [Jfs,Qi]
   rw [hf,Nat.sub_zero] at hm
   go_wp2_with fail
   go_ret;exact⟨⟨w.heap.size,rfl,Nat.le_refl _,hm⟩,ab⟩
end Go.Proofs.YtdgjplldlfeolaaGreatDoor
namespace Go.Proofs.YtdgjplldlfeolaaGreatDoor
open Go.RowKit
def Xb:List Va->ByteArray->Option Va
 | [],_=>none
 | v :: l,s=>if (v.name.toList == s.toList)=true then some v else Xb l s
def K9 (a:Int) (s:ByteArray) (b:Int) (t:ByteArray):Bool:=a == b && s.toList == t.toList
def Jaw (l:List Va) (s:ByteArray) (ok:Bool):Int:=
 match Xb l s with
 | none=>19
 | some v=>if (ok && K9 v.ck v.cn 0 ⟨#[]⟩)=true then 0 else 21
def Jac (l:List Va) (k:Int) (s:ByteArray) (ck:Int) (cn:ByteArray):Int:=
 if k=3 then(match Xb l s with
  | none=>19
  | some v=>if K9 v.ck v.cn ck cn=true then 0 else 21)
 else if k=8 then Jaw l s (K9 ck cn 1 s)
 else if k=9 then Jaw l s (K9 ck cn 2 s)
 else if k=10 then Jaw l s (K9 ck cn 0 ⟨#[]⟩)
 else 0
def Jb3 (k:Int) (s:ByteArray) (c:Int×ByteArray):Int×ByteArray:=if k=8\/k=9 then(0,⟨#[]⟩) else if k=10 then(1,s) else c
def Ja0 (k:Int) (s:ByteArray) (c:Int×ByteArray):Int×ByteArray:=if k=8\/k=9 then(0,⟨#[]⟩) else if k=10 then(2,s) else c
namespace Ex
mutual
def clk (l:List Va):Ex->Int×ByteArray->Int
 | mk k _ s sub,c=>if Jac l k s c.1 c.2≠0 then Jac l k s c.1 c.2 else clkL l sub (Jb3 k s c) (Ja0 k s c)
def clkL (l:List Va):List Ex->Int×ByteArray->Int×ByteArray->Int
 | [],_,_=>0
 | x :: r,c,d=>if clk l x c≠0 then clk l x c else clkL l r d c
end
theorem clk_eq (l:List Va) (e:Ex) (c:Int×ByteArray):e.clk l c=if Jac l e.kind e.name c.1 c.2≠0 then Jac l e.kind e.name c.1 c.2 else clkL l e.sub (Jb3 e.kind e.name c) (Ja0 e.kind e.name c):=by cases e;rw [clk];rfl
end Ex
def Yc (l:List Va) (v:Va):Int:=
 if K9 v.ck v.cn 0 ⟨#[]⟩=true then 0
 else match Xb l v.cn with
  | none=>19
  | some c=>if c.type≠2 then 20 else if K9 c.ck c.cn 0 ⟨#[]⟩=true then 0 else 21
theorem Jdg {a b:Int} {s t:ByteArray} : K9 a s b t=true<->a=b/\s.toList=t.toList:=by
 unfold K9;simp
namespace Ex
end Ex
theorem Jjj:∀ {l:List Ex},Ex.formedL l=true->∀x∈l,x.formed=true
 | [],_,x,hx=>by cases hx
 | y :: l,h,x,hx=>by
  simp only [Ex.formedL,Bool.and_eq_true] at h
  rcases List.mem_cons.1 hx with rfl|hx
  ·exact h.1
  ·exact Jjj h.2 x hx
theorem Jh0 {e:Ex} (h:e.formed=true):(e.kind=3\/e.kind=8\/e.kind=9\/e.kind=10)/\Kz e.name=true\/(e.kind≠3/\e.kind≠8/\e.kind≠9/\e.kind≠10)/\e.name.toList.isEmpty=true:=by
 rw [Ex.formed_eq] at h;unfold Jl Jw at h;generalize e.kind=k at *
 by_cases h1:k=1
 ·subst h1;simp at h ⊢;simp_all
 by_cases h2:k=2
 ·subst h2;simp at h ⊢;simp_all
 by_cases h3:k=3
 ·subst h3;simp at h ⊢;simp_all
 by_cases h4:k=4
 ·subst h4;simp at h ⊢;simp_all
 by_cases h5:k=5
 ·subst h5;simp at h ⊢;simp_all
 by_cases h6:k=6
 ·subst h6;simp at h ⊢;simp_all
 by_cases h7:k=7
 ·subst h7;simp at h ⊢;simp_all
 by_cases h8:k=8
 ·subst h8;simp at h ⊢;simp_all
 by_cases h9:k=9
 ·subst h9;simp at h ⊢;simp_all
 by_cases bM:k=10
 ·subst bM;simp at h ⊢;simp_all
 simp [h1,h2,h3,h4,h5,h6,h7,h8,h9,bM] at h
theorem Q9 {e:Ex} (h:e.formed=true):∀x∈e.sub,x.formed=true:=by
 rw [Ex.formed_eq,Bool.and_eq_true] at h;exact Jjj h.2
theorem Jfj {e:Ex} (h:e.formed=true) (hk:e.kind=10):e.sub.length=2:=by
 rw [Ex.formed_eq,Bool.and_eq_true] at h;have:=h.1;unfold Jl Jw at this;rw [hk] at this;simp at this;omega
theorem Jbx {s:ByteArray} (h:Kz s=true):s.toList.isEmpty=false:=by
 cases hs:s.toList.isEmpty with
 | false=>rfl
 | true=>
  exfalso
  have h0:s.toList = []:=by simpa using hs
  have h1:s.size=0:=by
   have:=congrArg List.length h0;rw [ByteArray.toList_eq] at this;simpa using this
  unfold Kz at h;rw [dif_neg (by omega)] at h
  cases h
theorem Jej {a b:ByteArray} (h:a.toList=b.toList):a=b:=Zf.1 (by rw [h];simp)
theorem Jem:∀ {l:List Va} {s:ByteArray} {v:Va},Xb l s=some v->v∈l/\v.name.toList=s.toList
 | [],s,v,h=>by simp [Xb] at h
 | u :: l,s,v,h=>by
  rw [Xb] at h
  split at h
  ·rename_i hn;obtain rfl:u=v:=by injection h
   exact⟨by simp,by simpa using hn⟩
  ·obtain⟨h1,h2⟩:=Jem h;exact⟨by simp [h1],h2⟩
end Go.Proofs.YtdgjplldlfeolaaGreatDoor
namespace Go.Proofs.YtdgjplldlfeolaaGreatDoor
open Go.RowKit Go.Sort
theorem Zt (a:Int) (s:ByteArray) (b:Int) (t:ByteArray) (w:World):(Op.equalIn 10000 81 (.agg #[.int .i64 a,.string s]) (.agg #[.int .i64 b,.string t])).run Tryz.prog w = .ok (K9 a s b t) w:=by
 have hS:Tryz.prog.underlying 81=some (.struct (Tryz.prog.fieldsOf 81)):=by kernel_rfl
 have hp:Tryz.prog.stoodInHeld 81=false:=by kernel_rfl
 rw [show(10000:Nat)=9999+1 from rfl,run_equalIn_agg w 9999 81 _ _ hS hp];simp only [Program.fieldsOf,Tryz.underlying81];go_simp;unfold K9
 by_cases h1:a=b <;> by_cases h2:s.toList=t.toList <;> simp [h1,h2]
theorem Jbt:Tryz.prog.eqGuardType Tryz.prog.depth 81=false:=by kernel_rfl
def Jh8:Va:=⟨⟨#[]⟩,0,0,⟨#[]⟩⟩
def fcV:Option Va->Value
 | some v=> .tuple #[vaV v,.bool true]
 | none=> .tuple #[vaV Jh8,.bool false]
theorem Jg9 (l:List Va) (A:Option Addr) (cap:Nat) (s:ByteArray) (w:World) (hl:Ju w l A cap) (hn:l.length<=1000000) :
  Calls Tryz.prog 134 #[.slice A l.length cap,.string s] w fun r w'=>r = .returned (fcV (Xb l s))/\Below w.heap.size w w':=by
 have hv:fcV (Xb l s)=fcV (Xb l s):=rfl;clear hv
 go_enter Tryz.func134,Tryz.ntmps134
 go_wp2_with fail
 refine Jo fun W0 ag=>?_;have ax:Below w.heap.size w W0:=by rw [ag];exact Jb
 have bD:w.heap.size<W0.heap.size:=by rw [ag];simp
 have f0:W0.cell? ⟨w.heap.size,0,none⟩=some (.string ⟨#[]⟩):=by rw [ag];go_simp
 have f1:W0.cell? ⟨w.heap.size,1,none⟩=some (.int .i64 0):=by rw [ag];go_simp
 have f2:W0.cell? ⟨w.heap.size,2,none⟩=some (.int .i64 0):=by rw [ag];go_simp
 have f3:W0.cell? ⟨w.heap.size,3,none⟩=some (.string ⟨#[]⟩):=by rw [ag];go_simp
 have z0:W0.frozen? ⟨w.heap.size,0,none⟩=false:=by rw [ag];go_simp
 have z1:W0.frozen? ⟨w.heap.size,1,none⟩=false:=by rw [ag];go_simp
 have z2:W0.frozen? ⟨w.heap.size,2,none⟩=false:=by rw [ag];go_simp
 have z3:W0.frozen? ⟨w.heap.size,3,none⟩=false:=by rw [ag];go_simp
 clear ag;replace hl:=hl.later ax
 go_loopw [10] (fun i wr=>∃k:Nat,k<=l.length/\i = .int .i64 k/\Xb (l.drop k) s=Xb l s/\Below W0.heap.size W0 wr) (fun i _=>l.length-(intOf i).toNat)
 case atStart=>exact⟨0,Nat.zero_le _,rfl,rfl,Below.refl _ _⟩
 case round=>
  obtain⟨k,hk,rfl,aa,ab⟩:=hrel;have hc:=Jg ab;have eh:=Jf ab;have bu:=ab.size;have fF:w.heap.size<wr.heap.size:=by omega
  by_cases am:k<l.length
  ·obtain⟨x,hx,-,hd⟩:=Kl am;obtain⟨b,off,rfl,aH,⟨d0,d1,d2,d3⟩⟩:=(hl.later ab).get hx;rw [hd,Xb] at aa;clear hd hx
   cases dj:(x.name.toList == s.toList)
   ·rw [dj,if_neg (by simp)] at aa;have HR:=Lib.hid aa;clear aa
    go_wp2_with fail
    go_roundw
    case rel=>exact⟨k+1,by omega,by go_num,HR.out,Jb⟩
    case measure=>simp [intOf];omega
   ·rw [dj,if_pos rfl] at aa;have HR:=Lib.hid aa;clear aa
    go_wp2_with fail
    refine bodyPost_ret (v:= .tuple #[.agg #[.string x.name,.int .i64 x.type,.int .i64 x.ck,.string x.cn],.bool true]) (by simp [results,Tryz.results134,go_sem, *]) rfl ⟨by rw [<-HR.out];rfl,?_⟩;exact Km
  obtain rfl:k=l.length:=by omega
  rw [List.drop_length,Xb] at aa;have HR:=Lib.hid aa;clear aa
  go_wp2_with fail
  refine bodyPost_ret (v:= .tuple #[.agg #[.string ⟨#[]⟩,.int .i64 0,.int .i64 0,.string ⟨#[]⟩],.bool false]) (by simp [results,Tryz.results134,go_sem, *]) rfl ⟨by rw [<-HR.out];rfl,?_⟩;exact Km
structure Ql (w:World):Prop where
 c0:w.cell? ⟨0,0,none⟩=some (.int .i64 0)
 c1:w.cell? ⟨0,1,none⟩=some (.string ⟨#[]⟩)
theorem Ql.later {w w':World} (h:Ql w) (hb:Below w.heap.size w w'):Ql w':=⟨Ja hb h.c0,Ja hb h.c1⟩
theorem Jhu (l:List Va) (A:Option Addr) (cap:Nat) (s:ByteArray) (ok:Bool) (w:World) (hg:Ql w) (hl:Ju w l A cap) (hn:l.length<=1000000) :
  Calls Tryz.prog 144 #[.slice A l.length cap,.string s,.bool ok] w fun r w'=>r = .returned (.int .i64 (Jaw l s ok))/\Below w.heap.size w w':=by
 have ap:=fun W h=>Jg9 l A cap s W (hl.later h) hn;have hv:Jaw l s ok=Jaw l s ok:=rfl;rw (occs:= .pos [2]) [Jaw] at hv;obtain⟨a0,a1⟩:=hg;have eC:0<w.heap.size:=block_lt_of_cell a0
 cases hf:Xb l s with
 | none=>
  rw [hf] at hv ap;clear hf;have HV:=Lib.hid hv;clear hv;unfold fcV vaV Jh8 at ap;dsimp only at ap
  go_enter Tryz.func144,Tryz.ntmps144
  go_wp2_with (first|(go_at_call 134;refine(ap _ Jb).mono ?_;rintro r w1 ⟨rfl,ac⟩;have ⟨ak,af⟩:=aft ac;(try simp at af);(try have go:0<w1.heap.size:=by omega)))
  go_ret;exact⟨Jm HV.out.symm,Jb⟩
 | some v=>
  rw [hf] at hv ap;clear hf;unfold fcV vaV at ap;dsimp only at ap hv;have fM:=Jbt;have dp:=fun w=>Zt v.ck v.cn 0 ⟨#[]⟩ w
  cases ok
  ·rw [Bool.false_and,if_neg (by simp)] at hv;have HV:=Lib.hid hv;clear hv
   go_enter Tryz.func144,Tryz.ntmps144
   go_wp2_with (first|(go_at_call 134;refine(ap _ Jb).mono ?_;rintro r w1 ⟨rfl,ac⟩;have ⟨ak,af⟩:=aft ac;(try simp at af);(try have go:0<w1.heap.size:=by omega)))
   go_ret;exact⟨Jm HV.out.symm,Jb⟩
  ·cases hq:K9 v.ck v.cn 0 ⟨#[]⟩
   ·rw [hq] at hv dp;rw [Bool.and_false,if_neg (by simp)] at hv;clear hq;have HV:=Lib.hid hv;clear hv
    go_enter Tryz.func144,Tryz.ntmps144
    go_wp2_with (first|(go_at_call 134;refine(ap _ Jb).mono ?_;rintro r w1 ⟨rfl,ac⟩;have ⟨ak,af⟩:=aft ac;(try simp at af);(try have go:0<w1.heap.size:=by omega)))
    go_ret;exact⟨Jm HV.out.symm,Jb⟩
   ·rw [hq] at hv dp;rw [Bool.and_true,if_pos rfl] at hv;clear hq;have HV:=Lib.hid hv;clear hv
    go_enter Tryz.func144,Tryz.ntmps144
    go_wp2_with (first|(go_at_call 134;refine(ap _ Jb).mono ?_;rintro r w1 ⟨rfl,ac⟩;have ⟨ak,af⟩:=aft ac;(try simp at af);(try have go:0<w1.heap.size:=by omega)))
    go_ret;exact⟨Jm HV.out.symm,Jb⟩
def OfP (l:List Va) (A:Option Addr) (cap:Nat) (x:Ex):Prop:=∀(Ae:Option Addr) (ce:Nat) (ck:Int) (cs:ByteArray) (W:World),Ql W->Jt W x Ae ce->Ju W l A cap->
  Calls Tryz.prog 135 #[.slice A l.length cap,exV x Ae ce,.agg #[.int .i64 ck,.string cs]] W fun r w'=>r = .returned (.int .i64 (x.clk l (ck,cs)))/\Below W.heap.size W w'
theorem Ji6 (l:List Va) (A:Option Addr) (cap:Nat) (e:Ex) (ih:∀x∈e.sub,OfP l A cap x) (Ae:Option Addr) (ce:Nat) (ck:Int) (cs:ByteArray) (w:World) (hg:Ql w) (he:Jt w e Ae ce) (hl:Ju w l A cap) :
  Calls Tryz.prog 145 #[.slice A l.length cap,.slice Ae e.sub.length ce,.agg #[.int .i64 ck,.string cs]] w fun r w'=>r = .returned (.int .i64 (Ex.clkL l e.sub (ck,cs) (ck,cs)))/\Below w.heap.size w w':=by
 have ai:=he.len;unfold maxLen at ai;obtain⟨jD,jE⟩:=ai
 go_enter Tryz.func145,Tryz.ntmps145
 go_wp2_with fail
 refine Jo fun W0 ag=>?_;have ax:Below w.heap.size w W0:=by rw [ag];exact Jb
 have bD:w.heap.size<W0.heap.size:=by rw [ag];simp
 have f0:W0.cell? ⟨w.heap.size,0,none⟩=some (.int .i64 ck):=by rw [ag];go_simp
 have f1:W0.cell? ⟨w.heap.size,1,none⟩=some (.string cs):=by rw [ag];go_simp
 clear ag;replace hl:=hl.later ax;replace he:=he.later ax;replace hg:=hg.later ax
 go_loopw [12] (fun i wr=>∃k:Nat,k<=e.sub.length/\i = .int .i64 k/\Ex.clkL l (e.sub.drop k) (ck,cs) (ck,cs)=Ex.clkL l e.sub (ck,cs) (ck,cs)/\Below W0.heap.size W0 wr) (fun i _=>e.sub.length-(intOf i).toNat)
 case atStart=>exact⟨0,Nat.zero_le _,rfl,rfl,Below.refl _ _⟩
 case round=>
  obtain⟨k,hk,rfl,aa,ab⟩:=hrel;have hc:=Jg ab;have bu:=ab.size;have fF:w.heap.size<wr.heap.size:=by omega
  by_cases am:k<e.sub.length
  ·obtain⟨x,hx,aj,hd⟩:=Kl am;obtain⟨b,off,A',cap',rfl,c0,c1,c2,c3,hs⟩:=(he.later ab).get hx;rw [hd,Ex.clkL] at aa;have ihx:=fun W h1 h2 h3=>ih x aj A' cap' ck cs W h1 h2 h3;unfold exV at ihx;clear hd hx aj ih
   by_cases hz:x.clk l (ck,cs)≠0
   ·rw [if_pos hz] at aa;have t1:(x.clk l (ck,cs) != 0)=true:=by simpa using hz
    have HR:=Lib.hid aa;clear aa hz;generalize x.clk l (ck,cs)=xc at *
    go_wp2_with (first|(go_at_call 135;refine mo (ihx _ (hg.later Jb) (hs.later Jb) (hl.later Jb)) fun w1 ac ak af bV=>?_;(try simp at af)))
    go_ret;exact⟨Jm HR.out,Jb⟩
   ·rw [if_neg hz] at aa;have t1:(x.clk l (ck,cs) != 0)=false:=by simpa using hz
    have HR:=Lib.hid aa;clear aa hz;generalize x.clk l (ck,cs)=xc at *
    go_wp2_with (first|(go_at_call 135;refine mo (ihx _ (hg.later Jb) (hs.later Jb) (hl.later Jb)) fun w1 ac ak af bV=>?_;(try simp at af)))
    go_roundw
    case rel=>exact⟨k+1,by omega,by go_num,HR.out,Jb⟩
    case measure=>simp [intOf];omega
  ·have bk:k=e.sub.length:=by omega
   rw [bk,List.drop_length,Ex.clkL] at aa;have HR:=Lib.hid aa;clear aa bk
   go_wp2_with fail
   go_ret;exact⟨Jm HR.out,Jb⟩
theorem Jgh {l:List Va} {e:Ex} {c:Int×ByteArray} {f:Int} (h:Jac l e.kind e.name c.1 c.2=f) (hf:f≠0):e.clk l c=f:=by
 rw [Ex.clk_eq,h,if_pos hf]
theorem Jgg {l:List Va} {e:Ex} {c:Int×ByteArray} (h:Jac l e.kind e.name c.1 c.2=0):e.clk l c=Ex.clkL l e.sub (Jb3 e.kind e.name c) (Ja0 e.kind e.name c):=by
 rw [Ex.clk_eq,h,if_neg (by omega)]
end Go.Proofs.YtdgjplldlfeolaaGreatDoor
namespace Go.Proofs.YtdgjplldlfeolaaGreatDoor
open Go.RowKit
def Jb9 (v:Va):ByteArray:=
 if v.ck=1 then(if v.type=2 then v.name ++ ⟨#[32,58,32,98,111,111,108]⟩ else v.name ++ ⟨#[32,58,32,105,110,116]⟩) ++ (⟨#[32,119,104,101,110,32]⟩ ++ v.cn)
 else if v.ck=2 then(if v.type=2 then v.name ++ ⟨#[32,58,32,98,111,111,108]⟩ else v.name ++ ⟨#[32,58,32,105,110,116]⟩) ++ (⟨#[32,117,110,108,101,115,115,32]⟩ ++ v.cn)
 else(if v.type=2 then v.name ++ ⟨#[32,58,32,98,111,111,108]⟩ else v.name ++ ⟨#[32,58,32,105,110,116]⟩)
def Yr:Nat->ByteArray->List Va->ByteArray
 | _,s,[]=>s
 | k,s,v :: l=>Yr (k+1) ((if 0<k then s ++ ⟨#[59,32]⟩ else s) ++ Jb9 v) l
def Y9 (l:List Va):ByteArray:=Yr 0 ⟨#[40]⟩ l ++ ⟨#[41]⟩
def Ym (p:Pr):ByteArray:=⟨#[110,111,100,101,32]⟩ ++ p.name ++ ⟨#[32]⟩ ++ Y9 p.ins ++ ⟨#[32,114,101,116,117,114,110,115,32]⟩ ++ Y9 p.outs ++ ⟨#[59,10]⟩
def Xr:ByteArray->List Va->ByteArray
 | s,[]=>s
 | s,v :: l=>Xr (s ++ (⟨#[32,32]⟩ ++ Jb9 v ++ ⟨#[59,10]⟩)) l
def Jhz (s:ByteArray) (q:Qe):ByteArray:=
 (if q.delay=1 then(s ++ (⟨#[32,32]⟩ ++ q.name ++ ⟨#[32,61,32]⟩)) ++ (q.first.showB ++ ⟨#[32,102,98,121,32]⟩) else if q.delay=2 then(s ++ (⟨#[32,32]⟩ ++ q.name ++ ⟨#[32,61,32]⟩)) ++ ⟨#[112,114,101,32]⟩ else s ++ (⟨#[32,32]⟩ ++ q.name ++ ⟨#[32,61,32]⟩)) ++ (q.e.showB ++ ⟨#[59,10]⟩)
def Zs:ByteArray->List Qe->ByteArray
 | s,[]=>s
 | s,q :: l=>Zs (Jhz s q) l
def Jal (p:Pr):ByteArray:=Zs (Xr (if 0<p.locals.length then Ym p ++ ⟨#[118,97,114,10]⟩ else Ym p) p.locals ++ ⟨#[108,101,116,10]⟩) p.eqs ++ ⟨#[116,101,108,10]⟩
def K5 (p:Pr):Int:=if Qw p=false then 4 else if 4096<(Jal p).size then 3 else 0
def Jb8 (v:Va):Prop:=v.name.size<=16/\v.cn.size<=16
theorem Jc9 {v:Va} (h:Jb8 v):(Jb9 v).size<=60:=by
 obtain⟨h1,h2⟩:=h;unfold Jb9
 repeat' split
 all_goals simp only [Kq,Ko,List.size_toArray,List.length_cons,List.length_nil]
 all_goals omega
theorem Jcl:∀(l:List Va),(∀v∈l,Jb8 v)->∀(k:Nat) (s:ByteArray),(Yr k s l).size<=s.size+62 * l.length
 | [],_,k,s=>by simp [Yr]
 | v :: l,h,k,s=>by
  have h1:=Jc9 (h v (by simp));have:=Jcl l (fun x hx=>h x (by simp [hx])) (k+1) ((if 0<k then s ++ ⟨#[59,32]⟩ else s) ++ Jb9 v);rw [Yr];refine Nat.le_trans this ?_;rw [Kq,List.length_cons]
  split
  ·simp only [Kq,Ko,List.size_toArray,List.length_cons,List.length_nil];omega
  ·omega
theorem Jjv {l:List Va} (h:∀v∈l,Jb8 v):(Y9 l).size<=2+62 * l.length:=by
 have:=Jcl l h 0 ⟨#[40]⟩;unfold Y9;simp only [Kq,Ko,List.size_toArray,List.length_cons,List.length_nil] at this ⊢;omega
theorem Jkm {v:Va} {own:Bool} (h:Ke v own=true):Jb8 v:=by
 unfold Ke at h;simp only [Bool.and_eq_true] at h;refine⟨Jaf h.1.1,?_⟩;have h2:=h.2
 split at h2
 ·exact Jgu (.inr h2)
 ·split at h2
  ·simp only [Bool.and_eq_true] at h2;exact Jaf h2.2
  ·simp at h2
theorem X4 {p:Pr} (h:Qw p=true):p.name.size<=16/\(∀v∈p.ins,Jb8 v)/\(∀v∈p.outs,Jb8 v)/\(∀v∈p.locals,Jb8 v)/\∀q∈p.eqs,eqB q=true:=by
 simp only [Qw,Bool.and_eq_true,List.all_eq_true] at h;exact⟨Jaf h.1.1.1.1,fun v hv=>Jkm (h.1.1.1.2 v hv),fun v hv=>Jkm (h.1.1.2 v hv),fun v hv=>Jkm (h.1.2 v hv),h.2⟩
theorem Jaq {q:Qe} (h:eqB q=true):q.name.size<=16/\q.e.formed=true/\q.e.size<=120/\(q.delay=1->q.first.formed=true/\q.first.size<=120)/\(q.delay=0\/q.delay=1\/q.delay=2):=by
 simp only [eqB,Bool.and_eq_true] at h;obtain⟨⟨h1,h2⟩,h3⟩:=h
 have small:∀e:Ex,e.right=0->e.formed=true/\e.size<=120:=by
  intro e he;have:=Ex.right_zero.1 he;have hs:=Ex.count_size e 121 (by omega);exact⟨this.2.2,by omega⟩
 have tA:=small q.e (by simpa using h2);refine⟨Jaf h1,tA.1,tA.2,fun hd=>?_,?_⟩
 ·rw [if_pos hd] at h3;unfold Ex.literal at h3
  split at h3
  ·rename_i hr;exact small _ hr
  ·simp at h3
 ·split at h3
  ·omega
  ·split at h3
   ·omega
   ·simp at h3
def Zz (l:List Va) (j:Int):Int:=match l[j.toNat]? with|some v=>v.type|none=>0
def eqE (l:List Va) (ins:Int) (done:ByteArray->Option Int) (q:Qe):Int:=
 match Qi l q.name with
 | none=>19
 | some j=>
  if j<ins then 19
  else if 0<(done q.name).getD 0 then 18
  else if (q.e.typ l).2≠0 then(q.e.typ l).2
  else if q.delay=1/\(q.first.typ l).1≠Zz l j then 20
  else if (q.e.typ l).1≠Zz l j then 20
  else 0
def Jah (l:List Va):Nat->List Va->Option Nat
 | _,[]=>none
 | k,v :: r=>if (Qi l v.name).getD 0≠(k:Int) then some k else Jah l (k+1) r
def Zy (l:List Va) (ins:Int):Nat->(ByteArray->Option Int)->List Qe->Option (Nat×Int)×(ByteArray->Option Int)
 | _,d,[]=>(none,d)
 | k,d,q :: r=>if eqE l ins d q≠0 then(some (k,eqE l ins d q),d) else Zy l ins (k+1) (upd d q.name ((d q.name).getD 0+1)) r
def Jam (d:ByteArray->Option Int):Nat->List Va->Option Nat
 | _,[]=>none
 | k,v :: r=>if (d v.name).getD 0=0 then some k else Jam d (k+1) r
def Jg3 (d:ByteArray->Option Int) (l:List Va) (ins:Nat):Int×Int×Int:=
 match Jam d ins (l.drop ins) with
 | some k=>(2,(k:Int),8)
 | none=>(0,0,0)
def Jkn (l:List Va) (ins:Nat) (r:Option (Nat×Int)×(ByteArray->Option Int)):Int×Int×Int:=
 match r.1 with
 | some (k,e)=>(3,(k:Int),e)
 | none=>Jg3 r.2 l ins
def Jhl (p:Pr) (r:Option Nat):Int×Int×Int:=
 match r with
 | some k=>(2,(k:Int),18)
 | none=>Jkn (Je p) p.ins.length (Zy (Je p) p.ins.length 0 (fun _=>none) p.eqs)
def J7 (p:Pr):Int×Int×Int:=
 if K5 p≠0 then(4,0,K5 p)
 else if 8<p.ins.length\/8<p.outs.length\/24<(Je p).length then(4,0,3)
 else Jhl p (Jah (Je p) 0 (Je p))
end Go.Proofs.YtdgjplldlfeolaaGreatDoor
namespace Go.Proofs.YtdgjplldlfeolaaGreatDoor
open Go.RowKit Go.Sort
theorem Jc8:(Tryz.prog.info? 83).map (fun i=>(i.zero,i.size,i.bytes))=some (some (.agg #[.string ⟨#[]⟩,.int .i64 0,.int .i64 0,.string ⟨#[]⟩]),4,48):=by kernel_rfl
theorem Jol {p:Pr} {w w3:World} {v3:Value} (h:w3.ownsRow (w.heap.size+1) 83 4 v3 (0+p.ins.length+p.outs.length+p.locals.length) ([] ++ Xe p.ins ++ Xe p.outs ++ Xe p.locals)) :
  ∃A cap,Ending.returned v3 = .returned (.slice A (Je p).length cap)/\w3.ownsRow w.heap.size 83 4 (.slice A (Je p).length cap) (Je p).length (Xe (Je p)):=by
 have e1:0+p.ins.length+p.outs.length+p.locals.length=(Je p).length:=by simp [Je];omega
 have e2 : [] ++ Xe p.ins ++ Xe p.outs ++ Xe p.locals=Xe (Je p):=by simp [Je,Xe]
 rw [e1,e2] at h;obtain⟨A,cap,rfl,_,_⟩:=Jv h;refine⟨A,cap,rfl,h.1,?_⟩
 rcases h.2 with h2|⟨g,cap',cur,hv,hg,r⟩
 ·exact .inl h2
 ·exact .inr ⟨g,cap',cur,hv,by omega,r⟩
theorem Jcv (p:Pr) (a:PrA) (w:World) (hp:Kr w p a) (n1:p.ins.length<=1000000) (n2:p.outs.length<=1000000) (n3:p.locals.length<=1000000) :
  Calls Tryz.prog 118 #[prV p a] w fun r w'=>
   (∃A cap,r = .returned (.slice A (Je p).length cap)/\w'.ownsRow w.heap.size 83 4 (.slice A (Je p).length cap) (Je p).length (Xe (Je p)))/\Below w.heap.size w w':=by
 have ak:=hp.ins;have dm:=hp.outs;have kE:=hp.locals;obtain⟨A1,c1,A2,c2,A3,c3,A4,c4⟩:=a;dsimp only at ak dm kE;unfold prV;dsimp only
 go_enter Tryz.func118,Tryz.ntmps118
 go_wp2_with (at_builtin;refine K6 rfl _ _ 35 rfl (w.heap.size+1) 83 _ 4 48 Tryz.underlying35 Jc8 rfl (by omega) (.slice none 0 0) 0 [] A1 p.ins.length c1 (Xe p.ins) rfl (World.ownsRow_nil _ _ _ _) rfl (ak.later Jb).cells (Jbg _) (by omega) (by omega) (by simp) ?_;intro v1 w1 ba ac)
 have aC:Below w.heap.size w w1:=(Jc (Below.refl _ _) _).trans (ac.mono (by omega));have af:w.heap.size+1<=w1.heap.size:=by have:=ac.size;simpa using this
 have k2:w1.cell? ⟨w.heap.size,2,none⟩=some (.slice A2 p.outs.length c2):=by rw [ac.cell (by simp)];go_simp
 have k3:w1.cell? ⟨w.heap.size,3,none⟩=some (.slice A3 p.locals.length c3):=by rw [ac.cell (by simp)];go_simp
 go_region_law (first
  | (refine Jg1 rfl (.tmp 7) (.tmp 9) 35 rfl (w.heap.size+1) 83 _ 4 48 Tryz.underlying35 Jc8 rfl (by omega) v1 (0+p.ins.length) ([] ++ Xe p.ins) A2 p.outs.length c2 (Xe p.outs) rfl (Kp ba) rfl (dm.later (Jh aC)).cells (Jbg _) (by omega) (by omega) af ?_;intro v2 w2 ao aq;have iY:Below w.heap.size w w2:=(Jh aC).trans (aq.mono (by omega));have br:w.heap.size+1<=w2.heap.size:=Nat.le_trans af aq.size;have k3':w2.cell? ⟨w.heap.size,3,none⟩=some (.slice A3 p.locals.length c3):=(aq.cell (p:=⟨w.heap.size,3,none⟩) (by simp)).trans k3)
  | (refine Jg1 rfl (.tmp 10) (.tmp 12) 35 rfl (w.heap.size+1) 83 _ 4 48 Tryz.underlying35 Jc8 rfl (by omega) v2 (0+p.ins.length+p.outs.length) ([] ++ Xe p.ins ++ Xe p.outs) A3 p.locals.length c3 (Xe p.locals) rfl ao rfl (kE.later iY).cells (Jbg _) (by omega) (by omega) br ?_;intro v3 w3 aE aM))
 all_goals
  go_wp2_with fail
  go_ret;refine⟨?_,iY.trans (aM.mono (by omega))⟩;exact Jol aE
def Off (base:Nat) (g:Option Nat) (w:World) (P:World->Prop):Prop:=∀w':World,(∀k,base<=k->k<w.heap.size->some k≠g->w'.heap[k]?=w.heap[k]?)->P w'
theorem Off.here {base:Nat} {g:Option Nat} {w:World} {P:World->Prop} (h:Off base g w P):P w:=h w fun _ _ _ _=>rfl
theorem Off.grow {base:Nat} {g g':Option Nat} {w w2:World} {P:World->Prop} (h:Off base g w P) (hs:∀k,base<=k->k<w.heap.size->some k≠g->w2.heap[k]?=w.heap[k]?) (cE:w.heap.size<=w2.heap.size)
  (hg:g'=g\/∀k,g'=some k->w.heap.size<=k):Off base g' w2 P:=fun w' jC=>h w' fun k h1 h2 h3=>by
 refine(jC k h1 (by omega) ?_).trans (hs k h1 h2 h3)
 rcases hg with rfl|hg
 ·exact h3
 ·intro he;have:=hg k he.symm;omega
theorem Off.fresh {base base0:Nat} {g':Option Nat} {w w2:World} {P:World->Prop} (h:Off base0 none w P) (hb:base<=base0) (hs:∀k,base0<=k->k<w.heap.size->w2.heap[k]?=w.heap[k]?) (cE:w.heap.size<=w2.heap.size)
  (hg:∀k,g'=some k->k<base0\/w.heap.size<=k):Off base g' w2 P:=fun w' jC=>h w' fun k h1 h2 _=>by
 refine(jC k (by omega) (by omega) ?_).trans (hs k h1 h2);intro he;have:=hg k he.symm;omega
theorem Off.less {base base0:Nat} {g:Option Nat} {w:World} {P:World->Prop} (h:Off base0 g w P) (hb:base<=base0):Off base g w P:=fun w' jC=>h w' fun k h1 h2 h3=>jC k (by omega) h2 h3
theorem Off.later {base:Nat} {w w2:World} {P:World->Prop} (h:Off base none w P) (hb:Below w.heap.size w w2):Off base none w2 P:=
 h.grow (fun k _ hk _=>hb.block k hk) hb.size (.inl rfl)
theorem Off.map {base:Nat} {g:Option Nat} {w:World} {P R:World->Prop} (h:Off base g w P) (hpr:∀W,P W->R W):Off base g w R:=fun w' jC=>hpr _ (h w' jC)
section
variable {P:Program} {w:World}
theorem Jkl (base:Nat) (t ty e:TypeId) (z:Value) (size bytes:Nat) (ht:P.underlying t=some (.slice e)) (hi:(P.info? e).map (fun i=>(i.zero,i.size,i.bytes))=some (some z,size,bytes))
  (gH:z.cells.size=size) (cE:0<size) (v:Value) (n:Nat) (xs:List Value) (ae:w.ownsRow base e size v n xs) (ad:Addr) (m c:Nat) (news:List Value)
  (hl:news.length=m * size) (hj:∀j u,news[j]?=some u->w.cell? (ad.add j)=some u) (h1:∀u∈news,u.oneCell'=true) (hn:n+m<=100000000) (hb:bytes<=1000) (aK:base<=w.heap.size) :
  ∃v' w',(Builtin.append_ #[t,t] ty #[v,.slice (some ad) m c]).run P w = .ok v' w'/\w'.ownsRow base e size v' (n+m) (xs ++ news)/\w.grownBy w' v.ownBlock/\
   (v'.ownBlock=v.ownBlock\/∀k,v'.ownBlock=some k->w.heap.size<=k):=by
 obtain⟨i,kF,bD,af,br⟩:=info_parts hi;have iw:n+m<=maxLen:=by unfold maxLen;omega
 have cI:(n+m) * bytes<=140737488355328:=Nat.le_trans (Nat.mul_le_mul hn hb) (by omega);obtain⟨v',w',hr,h2,h3,_⟩:=run_append_own (P:=P) w base t ty e i z size bytes ht kF bD af br gH cE v n xs ae ad m c news hl hj h1 iw cI aK;refine⟨v',w',hr,h2,h3,?_⟩
 rcases ae.2 with ⟨rfl,rfl⟩|⟨g,cap,cur,rfl,hbg,hg,xz,fG,dj,htake⟩
 ·have xB:w.ownsRow w.heap.size e size (.slice none 0 0) 0 xs:=⟨ae.1,.inl ⟨rfl,rfl⟩⟩;obtain⟨v2,w2,fa,h22,_,_⟩:=run_append_own (P:=P) w w.heap.size t ty e i z size bytes ht kF bD af br gH cE _ 0 xs xB ad m c news hl hj h1 iw cI (Nat.le_refl _);have he:=hr.symm.trans fa;injection he with e1 e2;subst e1 e2;exact .inr fun k hk=>(h22.lt k hk).1
 ·by_cases xC:n+m<=cap
  ·obtain⟨w2,fa,_,_⟩:=run_append_fits (P:=P) w base t ty e i size ht kF af g n cap xs ae ad m c news hl hj h1 xC;have he:=hr.symm.trans fa;injection he with e1 e2;subst e1;exact .inl rfl
  ·have xD:∀j u,xs[j]?=some u->w.cell? ((⟨g,0,none⟩:Addr).add j)=some u:=ae.cells (g:=g) rfl;subst af;have fa:=run_append_grow (P:=P) w t ty e i z ht kF bD ⟨g,0,none⟩ n cap xs ae.1 xD ad m c news hl hj (by omega) (by omega) (by subst br;exact growslice_fits (by omega) cI);have he:=hr.symm.trans fa;injection he with e1 e2;subst e1;refine .inr fun k hk=>?_;simp [Value.ownBlock] at hk;omega
theorem Jvm (g j:Nat):(⟨g,0,none⟩:Addr).add j=⟨g,j,none⟩:=by unfold Addr.add;split <;> simp_all
theorem Ji5 {o:Oper} {a:Act} {K:Act->World->Prop} {Q:Exit->Act->World->Prop} (s x:Operand) (t:TypeId)
  (ho:o.op = .call {callee:= .builtin .append,args:=#[s,x],argTypes:=#[t,t]})
  (base:Nat) (e:TypeId) (z:Value) (size bytes:Nat) (ht:P.underlying t=some (.slice e)) (hi:(P.info? e).map (fun i=>(i.zero,i.size,i.bytes))=some (some z,size,bytes))
  (gH:z.cells.size=size) (cE:0<size) (v:Value) (n:Nat) (xs:List Value) (g m c:Nat) (news:List Value) (hs:a.eval s=v) (ae:w.ownsRow base e size v n xs)
  (hx:a.eval x = .slice (some ⟨g,0,none⟩) m c) (hl:news.length=m * size) (hj:∀j u,news[j]?=some u->w.cell? ⟨g,j,none⟩=some u) (h1:∀u∈news,u.oneCell'=true) (hn:n+m<=100000000) (hb:bytes<=1000) (aK:base<=w.heap.size)
  (h:∀v' w',w'.ownsRow base e size v' (n+m) (xs ++ news)->w.grownBy w' v.ownBlock->(v'.ownBlock=v.ownBlock\/∀k,v'.ownBlock=some k->w.heap.size<=k)->K (a.put o.dst v') w'):o.wp P a w K Q:=by
 obtain⟨v',w',hr,h2,h3,h4⟩:=Jkl (P:=P) base t o.type e z size bytes ht hi gH cE v n xs ae ⟨g,0,none⟩ m c news hl (fun j u hu=>by rw [Jvm];exact hj j u hu) h1 hn hb aK;unfold Oper.wp execOp;simp only [ho,resolve,invoke,builtin,Sem.run_bind,Sem.run_pure,Result.andThen_ok,List.map_toArray,List.map_cons,List.map_nil,hs,hx,hr];exact h v' w' h2 h3 h4
theorem Z2 {ops:Array Oper} {rest:List Oper} {o:Oper} {a:Act} {Q:Exit->Act->World->Prop} (oL:o.guard=none) (s x:Operand) (t:TypeId)
  (ho:o.op = .call {callee:= .builtin .append,args:=#[s,x],argTypes:=#[t,t]})
  (base:Nat) (e:TypeId) (z:Value) (size bytes:Nat) (ht:P.underlying t=some (.slice e)) (hi:(P.info? e).map (fun i=>(i.zero,i.size,i.bytes))=some (some z,size,bytes))
  (gH:z.cells.size=size) (cE:0<size) (v:Value) (n:Nat) (xs:List Value) (g m c:Nat) (news:List Value) (hs:a.eval s=v) (ae:w.ownsRow base e size v n xs)
  (hx:a.eval x = .slice (some ⟨g,0,none⟩) m c) (hl:news.length=m * size) (hj:∀j u,news[j]?=some u->w.cell? ⟨g,j,none⟩=some u) (h1:∀u∈news,u.oneCell'=true) (hn:n+m<=100000000) (hb:bytes<=1000) (aK:base<=w.heap.size)
  (h:∀v' w',w'.ownsRow base e size v' (n+m) (xs ++ news)->w.grownBy w' v.ownBlock->(v'.ownBlock=v.ownBlock\/∀k,v'.ownBlock=some k->w.heap.size<=k)->wpList P ops Q rest (a.put o.dst v') w'):wpList P ops Q (o :: rest) a w:=
 wpList_plain oL fun _ hK=>Ji5 s x t ho base e z size bytes ht hi gH cE v n xs g m c news hs ae hx hl hj h1 hn hb aK fun v' w' h2 h3 h4=>hK _ _ (h v' w' h2 h3 h4)
end
def exC (x:Ex) (a:Option Addr×Nat):List Value:=[.int .i64 x.kind,.int .i32 x.n,.string x.name,.slice a.1 x.sub.length a.2]
def Ya:List Ex->List (Option Addr×Nat)->List Value
 | x :: l,a :: ls=>exC x a ++ Ya l ls
 | _,_=>[]
theorem Jih:∀(l:List Ex) (ls:List (Option Addr×Nat)) (x:Ex) (a:Option Addr×Nat),ls.length=l.length->Ya (l ++ [x]) (ls ++ [a])=Ya l ls ++ exC x a
 | [],[],x,a,_=>by simp [Ya]
 | y :: l,b :: ls,x,a,h=>by
  simp only [List.cons_append,Ya,List.append_assoc];rw [Jih l ls x a (by simpa using h)]
 | [],b :: ls,x,a,h=>by simp at h
 | y :: l,[],x,a,h=>by simp at h
theorem Xv.of_cells {w:World} {b:Nat} : ∀(l:List Ex) (ls:List (Option Addr×Nat)) (off:Nat),ls.length=l.length->(∀j u,(Ya l ls)[j]?=some u->w.cell? ⟨b,off+j,none⟩=some u)->
  (∀(j:Nat) (x:Ex) (a:Option Addr×Nat),l[j]?=some x->ls[j]?=some a->Jt w x a.1 a.2)->Xv w b l off
 | [],_,off,_,_,_=>by simp [Xv]
 | y :: l,[],off,h,_,_=>by simp at h
 | y :: l,a :: ls,off,h,hc,hs=>by
  rw [Xv];refine⟨⟨a.1,a.2,?_,?_,?_,?_,hs 0 y a rfl rfl⟩,Xv.of_cells l ls (off+4) (by simpa using h) ?_ ?_⟩
  ·exact hc 0 _ rfl
  ·exact hc 1 _ rfl
  ·exact hc 2 _ rfl
  ·exact hc 3 _ rfl
  ·intro j u hj;have:=hc (4+j) u (by rw [Ya,List.getElem?_append_right (by simp [exC])];simpa [exC] using hj)
   rwa [show off+4+j=off+(4+j) from by omega]
  ·intro j x a' h1 h2;exact hs (j+1) x a' (by simpa using h1) (by simpa using h2)
theorem Jr {w w':World} {a:Addr} {v:Value} (h:w'.heap[a.block]?=w.heap[a.block]?) (hc:w.cell? a=some v):w'.cell? a=some v:=by
 rw [World.cell?_of_block h];exact hc
theorem Jt.of_own {w:World} {base:Nat} {t:TypeId} {x:Ex} {v:Value} {ls:List (Option Addr×Nat)} (h:w.ownsRow base t 4 v x.sub.length (Ya x.sub ls)) (hl:ls.length=x.sub.length)
  (hs:∀(j:Nat) (y:Ex) (a:Option Addr×Nat),x.sub[j]?=some y->ls[j]?=some a->Off base v.ownBlock w (fun W=>Jt W y a.1 a.2)):∃A cap,v = .slice A x.sub.length cap/\Off base none w (fun W=>Jt W x A cap):=by
 rcases Nat.eq_zero_or_pos x.sub.length with h0|h0
 ·obtain⟨A,cap,rfl,h1,h2⟩:=Jv h;refine⟨A,cap,rfl,fun w' _=>?_⟩;show Jt w' x A cap;rw [Jao];exact⟨h1,h2,fun h=>absurd h (by omega)⟩
 ·obtain⟨g,cap,rfl,hg,am,h1,h2,hc⟩:=Kc h h0;refine⟨_,cap,rfl,fun w' jC=>?_⟩;show Jt w' x _ cap;rw [Jao];refine⟨h1,h2,fun _=>⟨g,0,rfl,Xv.of_cells _ ls 0 hl (fun j u hj=>?_) fun j y a hy ha=>hs j y a hy ha w' fun k k1 k2 _=>jC k k1 k2 (by simp)⟩⟩;rw [Nat.zero_add];exact Jr (jC g hg am (by simp)) (hc j u hj)
def eqC (q:Qe) (a:(Option Addr×Nat)×(Option Addr×Nat)):List Value:=
 [.string q.name,.int .i64 q.delay,.int .i64 q.first.kind,.int .i32 q.first.n,.string q.first.name,.slice a.1.1 q.first.sub.length a.1.2,.int .i64 q.e.kind,.int .i32 q.e.n,.string q.e.name,.slice a.2.1 q.e.sub.length a.2.2]
def Jed:List Qe->List ((Option Addr×Nat)×(Option Addr×Nat))->List Value
 | q :: l,a :: ls=>eqC q a ++ Jed l ls
 | _,_=>[]
theorem Jmw:∀(l:List Qe) (ls:List ((Option Addr×Nat)×(Option Addr×Nat))) (x:Qe) (a:(Option Addr×Nat)×(Option Addr×Nat)),ls.length=l.length->Jed (l ++ [x]) (ls ++ [a])=Jed l ls ++ eqC x a
 | [],[],x,a,_=>by simp [Jed]
 | y :: l,b :: ls,x,a,h=>by
  simp only [List.cons_append,Jed,List.append_assoc];rw [Jmw l ls x a (by simpa using h)]
 | [],b :: ls,x,a,h=>by simp at h
 | y :: l,[],x,a,h=>by simp at h
theorem Jrk:∀(l:List Qe) (ls:List ((Option Addr×Nat)×(Option Addr×Nat))) (k:Nat) (q:Qe) (a:(Option Addr×Nat)×(Option Addr×Nat)),l[k]?=some q->ls[k]?=some a->∀(i:Nat) (u:Value),(eqC q a)[i]?=some u->(Jed l ls)[k * 10+i]?=some u
 | [],_,k,q,a,h,_,_,_,_=>by simp at h
 | y :: l,[],k,q,a,_,h,_,_,_=>by simp at h
 | y :: l,b :: ls,0,q,a,h1,h2,i,u,hu=>by
  simp at h1 h2;subst h1 h2;have hi:i<(eqC y b).length:=(List.getElem?_eq_some_iff.1 hu).1;rw [Jed,Nat.zero_mul,Nat.zero_add,List.getElem?_append_left hi];exact hu
 | y :: l,b :: ls,k+1,q,a,h1,h2,i,u,hu=>by
  have ai:(eqC y b).length=10:=rfl;rw [Jed,List.getElem?_append_right (by rw [ai];omega),ai,show(k+1) * 10+i-10=k * 10+i from by omega];exact Jrk l ls k q a (by simpa using h1) (by simpa using h2) i u hu
theorem Jap.of_own {w:World} {base:Nat} {t:TypeId} {l:List Qe} {v:Value} {ls:List ((Option Addr×Nat)×(Option Addr×Nat))} (h:w.ownsRow base t 10 v l.length (Jed l ls)) (hl:ls.length=l.length)
  (hs:∀(j:Nat) (q:Qe) (a:(Option Addr×Nat)×(Option Addr×Nat)),l[j]?=some q->ls[j]?=some a->Off base v.ownBlock w (fun W=>Jt W q.first a.1.1 a.1.2/\Jt W q.e a.2.1 a.2.2)):∃A cap,v = .slice A l.length cap/\Off base none w (fun W=>Jap W l A cap):=by
 rcases Nat.eq_zero_or_pos l.length with h0|h0
 ·obtain⟨A,cap,rfl,h1,h2⟩:=Jv h;exact⟨A,cap,rfl,fun w' _=>⟨h1,h2,fun h=>absurd h (by omega)⟩⟩
 ·obtain⟨g,cap,rfl,hg,am,h1,h2,hc⟩:=Kc h h0;refine⟨_,cap,rfl,fun w' jC=>⟨h1,h2,fun _=>⟨g,0,rfl,fun k q hk=>?_⟩⟩⟩;have hka:k<ls.length:=by rw [hl];exact(List.getElem?_eq_some_iff.1 hk).1
  have ha:ls[k]?=some ls[k]:=List.getElem?_eq_getElem hka;generalize ls[k]=a at ha;have cB:=fun i u hu=>Jr (jC g hg am (by simp)) (hc _ _ (Jrk l ls k q a hk ha i u hu));rw [Nat.zero_add];have aT:=hs k q a hk ha w' fun k k1 k2 _=>jC k k1 k2 (by simp);exact⟨a.1.1,a.1.2,a.2.1,a.2.2,⟨cB 0 _ rfl,cB 1 _ rfl,cB 2 _ rfl,cB 3 _ rfl,cB 4 _ rfl,cB 5 _ rfl,cB 6 _ rfl,cB 7 _ rfl,cB 8 _ rfl,cB 9 _ rfl,aT.1,aT.2⟩⟩
theorem Ju.off_own {w:World} {base:Nat} {e:TypeId} {l:List Va} {v:Value} (h:w.ownsRow base e 4 v l.length (Xe l)):∃A cap,v = .slice A l.length cap/\Off base none w (fun W=>Ju W l A cap):=by
 obtain⟨A,cap,rfl,h1,h2⟩:=Jv h;refine⟨A,cap,rfl,fun w' jC=>?_⟩
 rcases Nat.eq_zero_or_pos l.length with h0|h0
 ·exact⟨h1,h2,fun hl=>absurd hl (by omega)⟩
 ·obtain⟨g,c',hv,hg,am,h1,h2,hc⟩:=Kc h h0;injection hv with e1 e2 e3;subst e1 e3;refine⟨h1,h2,fun _=>⟨g,0,rfl,fun k v hk=>?_⟩⟩;have ha:=fun i u hu=>Jr (jC g hg am (by simp)) (hc _ _ (Jrh l k v hk i u hu));rw [Nat.zero_add];exact⟨ha 0 _ rfl,ha 1 _ rfl,ha 2 _ rfl,ha 3 _ rfl⟩
theorem Ju.off_own' {w:World} {base:Nat} {e:TypeId} {l:List Va} {A:Option Addr} {cap:Nat} (h:w.ownsRow base e 4 (.slice A l.length cap) l.length (Xe l)):Off base none w (fun W=>Ju W l A cap):=by
 obtain⟨A',cap',hv,ho⟩:=Ju.off_own h;injection hv with e1 e2 e3;subst e1 e3;exact ho
theorem Qo {w:World} {c:Array Value} {t:TypeId} {g j:Nat} (hg:g=w.heap.size):(w.alloc (.cells c t)).cell? ⟨g,j,none⟩=c[j]?:=by subst hg;exact Kw w c t j
theorem Kn {B n size z:Nat} {t:TypeId} {w:World} {v:Value} {xs:List Value} (ae:w.ownsRow B t size v n xs) (hz:∀b,v.ownBlock=some b->b≠z) (o:Nat) (u:Value):(w.setCell ⟨z,o,none⟩ u).ownsRow B t size v n xs:=
 ae.kept (row:=some z) ⟨rfl,rfl,rfl,by simp,fun k _ hk=>heap_setCell_other w ⟨z,o,none⟩ k u (fun e=>hk (by rw [e]))⟩ (by
  cases hb:v.ownBlock with
  | none=>exact .inl rfl
  | some b=>
   right
   intro he;injection he with he;exact hz b hb he)
theorem K8 {w:World} {B B' n size:Nat} {t:TypeId} {v:Value} {xs:List Value} (h:w.ownsRow B t size v n xs) (hb:B'<=B):w.ownsRow B' t size v n xs:=by
 refine⟨h.1,?_⟩
 rcases h.2 with h2|⟨g,cap',cur,hv,hg,r⟩
 ·exact .inl h2
 ·exact .inr ⟨g,cap',cur,hv,by omega,r⟩
theorem Jbd {B n size z:Nat} {t:TypeId} {w:World} {v:Value} {xs:List Value} (ae:w.ownsRow B t size v n xs) (hz:z<B) (o:Nat) (u:Value):(w.setCell ⟨z,o,none⟩ u).ownsRow B t size v n xs:=
 ae.kept (row:=some z) ⟨rfl,rfl,rfl,by simp,fun k _ hk=>heap_setCell_other w ⟨z,o,none⟩ k u (fun e=>hk (by rw [e]))⟩ (by
  cases hb:v.ownBlock with
  | none=>exact .inl rfl
  | some b=>
   right
   intro he;have:=(ae.lt b hb).1;injection he with he;omega)
theorem J2 {z:Nat} {w w1 w3:World} {row:Option Nat} (h:Below z w w1) (hg:w1.grownBy w3 row) (ay:∀b,row=some b->z<=b) (hz:z<=w1.heap.size):Below z w w3:=
 ⟨hg.os.trans h.os,hg.tape.trans h.tape,hg.output.trans h.output,Nat.le_trans h.size hg.size,fun k hk=>(hg.block k (by omega) (fun he=>by have:=ay k he.symm;omega)).trans (h.block k hk)⟩
theorem Jii {B n size:Nat} {t:TypeId} {wr w1 w3:World} {v:Value} {xs:List Value} (ae:wr.ownsRow B t size v n xs) (hB:B<=wr.heap.size) (ac:Below wr.heap.size wr w1) (hg:w1.grownBy w3 v.ownBlock):∀k,k<B->w3.heap[k]?=wr.heap[k]?:=fun k hk=>by
 have:=ac.size;refine(hg.block k (by omega) fun he=>?_).trans (ac.block k (by omega));have:=(ae.lt k he.symm).1;omega
def Qf (w:World) (l:List ByteArray) (A:Option Addr) (cap:Nat):Prop:=
 l.length<=cap/\cap<=maxLen/\(0<l.length->∃b off,A=some ⟨b,off,none⟩/\∀(k:Nat) (s:ByteArray),l[k]?=some s->w.cell? ⟨b,off+k,none⟩=some (.string s))
theorem Qf.later {w w':World} {l:List ByteArray} {A:Option Addr} {cap:Nat} (h:Qf w l A cap) (hb:Below w.heap.size w w'):Qf w' l A cap:=
 ⟨h.1,h.2.1,fun hl=>by
  obtain⟨b,off,hA,hr⟩:=h.2.2 hl;exact⟨b,off,hA,fun k s hk=>Ja hb (hr k s hk)⟩⟩
theorem Qf.get {w:World} {l:List ByteArray} {A:Option Addr} {cap k:Nat} {s:ByteArray} (h:Qf w l A cap) (hk:l[k]?=some s):∃b off,A=some ⟨b,off,none⟩/\b<w.heap.size/\w.cell? ⟨b,off+k,none⟩=some (.string s):=by
 have am:k<l.length:=(List.getElem?_eq_some_iff.1 hk).1;obtain⟨b,off,hA,hr⟩:=h.2.2 (by omega);exact⟨b,off,hA,block_lt_of_cell (hr k s hk),hr k s hk⟩
theorem Qf.len {w:World} {l:List ByteArray} {A:Option Addr} {cap:Nat} (h:Qf w l A cap):l.length<=cap/\cap<=maxLen:=⟨h.1,h.2.1⟩
theorem Qf.made (w:World) (l:List ByteArray) (t:TypeId) (c:Array Value) (hc:c=(l.map Value.string).toArray) (hl:l.length<=maxLen):Qf (w.alloc (.cells c t)) l (some ⟨w.heap.size,0,none⟩) l.length:=by
 refine⟨Nat.le_refl _,hl,fun _=>⟨_,_,rfl,fun k s hk=>?_⟩⟩;rw [Nat.zero_add,Kw,hc];simp [hk]
def Jk0:List ByteArray:=[⟨#[110,111,100,101]⟩,⟨#[114,101,116,117,114,110,115]⟩,⟨#[118,97,114]⟩,⟨#[108,101,116]⟩,⟨#[116,101,108]⟩,⟨#[105,102]⟩,⟨#[116,104,101,110]⟩,⟨#[101,108,115,101]⟩,⟨#[102,98,121]⟩,⟨#[112,114,101]⟩,⟨#[119,104,101,110]⟩,⟨#[117,110,108,101,115,115]⟩,⟨#[109,101,114,103,101]⟩,⟨#[110,111,116]⟩,⟨#[116,114,117,101]⟩,⟨#[102,97,108,115,101]⟩,⟨#[105,110,116]⟩,⟨#[98,111,111,108]⟩]
end Go.Proofs.YtdgjplldlfeolaaGreatDoor
namespace Go.Proofs.YtdgjplldlfeolaaGreatDoor
open Go.RowKit
def Ka (l:List ByteArray) (s:ByteArray):Bool:=l.any fun x=>x.toList == s.toList
theorem Jcx (l:List ByteArray) (x s:ByteArray):Ka (l ++ [x]) s=(Ka l s || x.toList == s.toList):=by
 unfold Ka;rw [List.any_append];simp
def Yw (l:List ByteArray) (s:ByteArray):List ByteArray:=if s.toList.isEmpty=true then l else if Ka l s=true then l else l ++ [s]
theorem Jj5 (l:List ByteArray) (s:ByteArray):l.length<=(Yw l s).length/\(Yw l s).length<=l.length+1:=by
 unfold Yw
 split
 ·omega
 ·split
  ·omega
  ·simp
namespace Ex
mutual
def named:List ByteArray->Ex->List ByteArray
 | l,mk _ _ s sub=>namedL (Yw l s) sub
def namedL:List ByteArray->List Ex->List ByteArray
 | l,[]=>l
 | l,x :: r=>namedL (named l x) r
end
theorem named_eq (l:List ByteArray) (e:Ex):e.named l=namedL (Yw l e.name) e.sub:=by cases e;rw [named];rfl
theorem Jlq:∀(r:List Ex),(∀x∈r,∀l,l.length<=(named l x).length/\(named l x).length<=l.length+x.size)->∀l,l.length<=(namedL l r).length/\(namedL l r).length<=l.length+sizeL r
 | [],_,l=>by simp [namedL]
 | x :: r,h,l=>by
  have h1:=h x (by simp) l;have h2:=Jlq r (fun y hy=>h y (by simp [hy])) (named l x);simp only [namedL,sizeL];omega
theorem named_len (e:Ex):∀l,l.length<=(named l e).length/\(named l e).length<=l.length+e.size:=by
 induction e using ind with
 | h e ih=>
  intro l;have h1:=Jj5 l e.name;have h2:=Jlq e.sub ih (Yw l e.name);rw [named_eq,size_eq];omega
end Ex
def Kx (e:Ex):List ByteArray:=if 120<e.count 121 then [] else e.named []
end Go.Proofs.YtdgjplldlfeolaaGreatDoor
namespace Go.Proofs.YtdgjplldlfeolaaGreatDoor
open Go.RowKit Go.Sort
theorem Qf.of_own {w:World} {base:Nat} {e:TypeId} {l:List ByteArray} {A:Option Addr} {cap:Nat} (h:w.ownsRow base e 1 (.slice A l.length cap) l.length (l.map .string)):Qf w l A cap:=by
 rcases Nat.eq_zero_or_pos l.length with h0|h0
 ·obtain⟨A',c',hv,h1,h2⟩:=Jv h;injection hv with e1 e2 e3;subst e3;exact⟨h1,h2,fun hl=>absurd hl (by omega)⟩
 ·obtain⟨g,c',hv,_,_,h1,h2,hc⟩:=Kc h h0;injection hv with e1 e2 e3;subst e1 e3;refine⟨h1,h2,fun _=>⟨g,0,rfl,fun k s hk=>?_⟩⟩;rw [Nat.zero_add];exact hc k _ (by simp [hk])
theorem Yz {a b c:World} {r0 r1:Option Nat} (h1:a.grownBy b r0) (h2:b.grownBy c r1) (hr:r1=r0\/∀k,r1=some k->a.heap.size<=k):a.grownBy c r0:=
 ⟨h2.os.trans h1.os,h2.tape.trans h1.tape,h2.output.trans h1.output,Nat.le_trans h1.size h2.size,fun k hk aS=>(h2.block k (Nat.lt_of_lt_of_le hk h1.size) (by
  rcases hr with rfl|hr
  ·exact aS
  ·intro he;have:=hr k he.symm;omega)).trans (h1.block k hk aS)⟩
theorem Jat {a b:World} {r0:Option Nat} (h:Below a.heap.size a b):a.grownBy b r0:=⟨h.os,h.tape,h.output,h.size,fun k hk _=>h.block k hk⟩
end Go.Proofs.YtdgjplldlfeolaaGreatDoor
