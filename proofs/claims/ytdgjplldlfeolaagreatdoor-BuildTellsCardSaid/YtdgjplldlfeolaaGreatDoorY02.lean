/- Lemmas. -/
import Derived.Test.YtdgjplldlfeolaaGreatDoorMac
import Derived.Test.YtdgjplldlfeolaaGreatDoorY00
import Derived.Maps.OwnSet
import Derived.Test.YtdgjplldlfeolaaGreatDoorRows
import Derived.ProofKit
import Derived.Deep.Slices
import Derived.Deep.Fields
import Derived.Lib.SmallJoins
set_option linter.unusedVariables false
set_option linter.unusedSimpArgs false
set_option maxRecDepth 100000
set_option maxHeartbeats 64000000
namespace Go.Proofs.YtdgjplldlfeolaaGreatDoor
open Go.RowKit Go.Sort
def Jch (q:Qe):Bool:=if q.delay=1 then q.first.literal else if q.delay=0\/q.delay=2 then q.first.same Ex.zero else false
theorem Juw (q:Qe):eqB q=(Kz q.name && q.e.right == 0 && Jch q):=rfl
theorem Jvg (w:World):Jt w Ex.zero none 0:=by simp [Jt,Ex.zero]
theorem Ju2 (p:Pr) (a:PrA) (w:World) (hp:Kr w p a) :
  Calls Tryz.prog 22 #[prV p a] w fun r w'=>r = .returned (.bool (Qw p))/\Below w.heap.size w w':=by
 have bI:=hp.ins.len;have aD:=hp.outs.len;have fD:=hp.locals.len;have cG:=hp.eqs.len;unfold maxLen at bI aD fD cG;obtain⟨bI,iw⟩:=bI;obtain⟨aD,cI⟩:=aD;obtain⟨fD,kV⟩:=fD;obtain⟨cG,sS⟩:=cG;obtain⟨A1,c1,A2,c2,A3,c3,A4,c4⟩:=a;unfold prV;dsimp only at *
 go_enter Tryz.func22,Tryz.ntmps22
 go_wp2_with (first|(go_at_call 47;refine mo (Qt _ _) fun w1 ac ak af bV=>?_;(try simp at af)))
 refine Jo fun W0 ag=>?_;have ax:=Nd w W0 Uz;have bD:w.heap.size<W0.heap.size:=by rw [ag];first|omega|(simp;omega)
 have k1:=Nb W0 w.heap.size 1 (.slice A1 p.ins.length c1) Uf;have k2:=Nb W0 w.heap.size 2 (.slice A2 p.outs.length c2) Uf;have k3:=Nb W0 w.heap.size 3 (.slice A3 p.locals.length c3) Uf;have k4:=Nb W0 w.heap.size 4 (.slice A4 p.eqs.length c4) Uf;clear ag;have pp:=hp.later ax;obtain⟨ii,gL,ip,bT⟩:=pp;dsimp only at ii gL ip bT;have hl:(Kz p.name && (p.ins.drop 0).all (Ke · false))=(Kz p.name && p.ins.all (Ke · false)):=rfl;have HL:=Nf hl;clear hl
 go_loopw [3,18] (fun o i wr=>∃(k:Nat) (b1:Bool),k<=p.ins.length/\i = .int .i64 k/\o = .bool b1/\(b1 && (p.ins.drop k).all (Ke · false))=(Kz p.name && p.ins.all (Ke · false))/\Below W0.heap.size W0 wr) (fun _ i _=>p.ins.length-(intOf i).toNat)
 case atStart=>exact⟨0,_,Np,rfl,rfl,HL.out,Fw⟩
 case round=>
 obtain⟨k,b1,hk,rfl,rfl,aa,ab⟩:=hrel;have hc:=Jg ab;have bu:=ab.size
 by_cases am:k<p.ins.length
 ·obtain⟨x,hx,-,hd⟩:=Kl am;obtain⟨b,off,rfl,aH,⟨d0,d1,d2,d3⟩⟩:=(ii.later ab).get hx;rw [hd,List.all_cons] at aa;have dE:=fun W=>Je0 x false W;unfold vaV at dE
  cases b1
  ·exact Uan
  ·exact B5
 have bk:k=p.ins.length:=Ua;rw [bk,Nn,List.all_nil,Bool.and_true] at aa;clear bk;have HX1:=Nf aa;clear aa
 go_wp2_with fail
 have hl:(b1 && (p.outs.drop 0).all (Ke · false))=(b1 && p.outs.all (Ke · false)):=rfl;have HL:=Nf hl;clear hl
 go_loopw [3,31] (fun o i wr=>∃(k:Nat) (b2:Bool),k<=p.outs.length/\i = .int .i64 k/\o = .bool b2/\(b2 && (p.outs.drop k).all (Ke · false))=(b1 && p.outs.all (Ke · false))/\Below W0.heap.size W0 wr) (fun _ i _=>p.outs.length-(intOf i).toNat)
 case atStart=>exact⟨0,_,Np,rfl,rfl,HL.out,Fw⟩
 case round=>
 obtain⟨k,b2,hk,rfl,rfl,aa,ab⟩:=hrel;have hc:=Jg ab;have bu:=ab.size
 by_cases am:k<p.outs.length
 ·obtain⟨x,hx,-,hd⟩:=Kl am;obtain⟨b,off,rfl,aH,⟨d0,d1,d2,d3⟩⟩:=(gL.later ab).get hx;rw [hd,List.all_cons] at aa;have dE:=fun W=>Je0 x false W;unfold vaV at dE
  cases b2
  ·exact Uan
  ·exact B5
 have bk:k=p.outs.length:=Ua;rw [bk,Nn,List.all_nil,Bool.and_true] at aa;clear bk;have HX2:=Nf aa;clear aa
 go_wp2_with fail
 have hl:(b2 && (p.locals.drop 0).all (Ke · true))=(b2 && p.locals.all (Ke · true)):=rfl;have HL:=Nf hl;clear hl
 go_loopw [3,44] (fun o i wr=>∃(k:Nat) (b3:Bool),k<=p.locals.length/\i = .int .i64 k/\o = .bool b3/\(b3 && (p.locals.drop k).all (Ke · true))=(b2 && p.locals.all (Ke · true))/\Below W0.heap.size W0 wr) (fun _ i _=>p.locals.length-(intOf i).toNat)
 case atStart=>exact⟨0,_,Np,rfl,rfl,HL.out,Fw⟩
 case round=>
 obtain⟨k,b3,hk,rfl,rfl,aa,ab⟩:=hrel;have hc:=Jg ab;have bu:=ab.size
 by_cases am:k<p.locals.length
 ·obtain⟨x,hx,-,hd⟩:=Kl am;obtain⟨b,off,rfl,aH,⟨d0,d1,d2,d3⟩⟩:=(ip.later ab).get hx;rw [hd,List.all_cons] at aa;have dE:=fun W=>Je0 x true W;unfold vaV at dE
  cases b3
  ·exact Uan
  ·rw [Bool.true_and] at aa;have HR:=Nf aa;clear aa hd hx
   go_wp2_with (first|(go_at_call 48;refine mo (dE _) fun w1 ac ak af bV=>?_;(try simp at af)))
   go_roundw
   case rel=>exact⟨k+1,Ke x true,Ua,Uw,rfl,HR.out,Jb⟩
   case measure=>simp [intOf];omega
 have bk:k=p.locals.length:=Ua;rw [bk,Nn,List.all_nil,Bool.and_true] at aa;clear bk;have HX3:=Nf aa;clear aa
 have hl:(b3 && (p.eqs.drop 0).all eqB)=Qw p:=by
  rw [HX3.out,HX2.out,HX1.out];rfl
 have HL:=Nf hl;clear hl
 go_wp2_with fail
 go_loopw [3,57] (fun o i wr=>∃(k:Nat) (b4:Bool),k<=p.eqs.length/\i = .int .i64 k/\o = .bool b4/\(b4 && (p.eqs.drop k).all eqB)=Qw p/\Below W0.heap.size W0 wr) (fun _ i _=>p.eqs.length-(intOf i).toNat)
 case atStart=>exact⟨0,_,Np,rfl,rfl,HL.out,Fw⟩
 case round=>
 obtain⟨k,b4,hk,rfl,rfl,aa,ab⟩:=hrel;have hc:=Jg ab;have bu:=ab.size
 by_cases am:k<p.eqs.length
 ·obtain⟨q,hx,-,hd⟩:=Kl am;obtain⟨b,off,B1,n1,B2,n2,rfl,aH,⟨g0,g1,g2,g3,g4,g5,g6,g7,g8,g9,s1,s2⟩⟩:=(bT.later ab).get hx;rw [hd,List.all_cons,Juw] at aa;have aB:=fun W h=>Jnc q.e B2 n2 W (s2.later h);have cU:=fun W h=>Jqk q.first B1 n1 W (s1.later h);have bF:=fun W h=>Jw3 q.first Ex.zero B1 n1 none 0 W (s1.later h) (Jvg _);unfold exV at aB cU bF;unfold Ex.zero at bF;simp only [Ex.kind,Ex.n,Ex.name,Ex.sub,Nm] at bF
  by_cases q1:q.delay=1
  ·have q1':(q.delay == 1)=true:=by simp [q1]
   have ek:Jch q=q.first.literal:=by unfold Jch;rw [if_pos q1]
   clear q1;rw [ek] at aa
   cases b4
   ·exact Ucz
   cases hn:Kz q.name
   ·rw [hn] at aa;exact Ucz
   cases hr:(q.e.right == 0)
   ·rw [hn,hr] at aa;exact Ucz
   rw [hn,hr] at aa;replace aa:(q.first.literal && (List.drop (k+1) p.eqs).all eqB)=Qw p:=F1;have HR:=Nf aa;clear aa hd hx
   go_wp2_with (first|(go_at_call 47;refine mo (Qt _ _) fun w1 ac ak af bV=>?_;(try simp at af))|(go_at_call 21;refine mo (aB _ Jb) fun w1 ac ak af bV=>?_;(try simp at af))|(go_at_call 49;refine mo (cU _ Jb) fun w1 ac ak af bV=>?_;(try simp at af))|(go_at_call 50;refine mo (bF _ Jb) fun w1 ac ak af bV=>?_;(try simp at af)))
   go_roundw
   case rel=>exact⟨k+1,_,Ua,Uw,rfl,HR.out,Jb⟩
   case measure=>simp [intOf];omega
  by_cases q0:q.delay=0
  ·have q0':(q.delay == 0)=true:=by simp [q0]
   have ek:Jch q=q.first.same Ex.zero:=by unfold Jch;rw [if_neg q1,if_pos (.inl q0)]
   clear q0;exact Ti
  by_cases q2:q.delay=2
  ·have q2':(q.delay == 2)=true:=by simp [q2]
   have ek:Jch q=q.first.same Ex.zero:=by unfold Jch;rw [if_neg q1,if_pos (.inr q2)]
   clear q2;exact Ti
  have ek:Jch q=false:=by unfold Jch;rw [if_neg q1,if_neg Ua]
  rw [ek] at aa;simp only [Bool.and_false,Bool.false_and] at aa
  cases b4
  ·exact Bl
  cases hn:Kz q.name
  ·exact Bl
  cases hr:(q.e.right == 0)
  ·exact Bl
  ·exact Bl
 have bk:k=p.eqs.length:=Ua;rw [bk,Nn,List.all_nil,Bool.and_true] at aa;have HR:=Nf aa;clear aa bk
 go_wp2_with fail
 go_ret;exact⟨Jk HR.out,Jb⟩
end Go.Proofs.YtdgjplldlfeolaaGreatDoor
namespace Go.Proofs.YtdgjplldlfeolaaGreatDoor
open Go.RowKit
theorem Jks:∀(l:List Va) (s:ByteArray) (i:Int),Xf l s i=none->Xb l s=none
 | [],_,_,_=>rfl
 | v :: l,s,i,h=>by
  unfold Xf at h
  split at h
  ·cases h
  ·rename_i hn;rw [Xb,if_neg,Jks l s (i+1) h];rw [Zf];intro he;exact hn (by rw [he])
def Jp (l:List Va) (s:ByteArray):Int:=(Qi l s).getD (-1)
end Go.Proofs.YtdgjplldlfeolaaGreatDoor
namespace Go.Proofs.YtdgjplldlfeolaaGreatDoor
open Go.RowKit Go.Sort
theorem Jpa (l:List Va) (A:Option Addr) (cap:Nat) (v:Va) (w:World) (hg:Ql w) (hl:Ju w l A cap) (hn:l.length<=1000000) :
  Calls Tryz.prog 133 #[.slice A l.length cap,vaV v] w fun r w'=>r = .returned (.int .i64 (Yc l v))/\Below w.heap.size w w':=by
 have ap:=fun W h=>Jg9 l A cap v.cn W (hl.later h) hn;have fM:=Jbt;have dp:=fun w=>Zt v.ck v.cn 0 ⟨#[]⟩ w;obtain⟨a0,a1⟩:=hg;have eC:0<w.heap.size:=Nu a0;have hv:Yc l v=if K9 v.ck v.cn 0 ⟨#[]⟩=true then 0 else(match Xb l v.cn with|none=>19|some c=>if c.type≠2 then 20 else if K9 c.ck c.cn 0 ⟨#[]⟩=true then 0 else 21):=by unfold Yc;rfl
 unfold vaV
 cases hq:K9 v.ck v.cn 0 ⟨#[]⟩
 case true=>
  rw [hq,if_pos rfl] at hv;rw [hq] at dp;clear hq;have HV:=Nf hv;clear hv
  go_enter Tryz.func133,Tryz.ntmps133
  go_wp2_with fail
  exact Uc3
 rw [hq,if_neg Uh] at hv;rw [hq] at dp;clear hq
 cases hf:Xb l v.cn with
 | none=>
  rw [hf] at hv ap;clear hf;unfold fcV vaV Jh8 at ap;dsimp only at ap;have HV:=Nf hv;clear hv
  go_enter Tryz.func133,Tryz.ntmps133
  go_wp2_with (first|(go_at_call 134;refine(ap _ Jb).mono ?_;rintro r w1 ⟨rfl,ac⟩;have ⟨ak,af⟩:=aft ac;(try simp at af);(try have go:0<w1.heap.size:=by omega)))
  go_ret;exact⟨Jm HV.out.symm,Jb⟩
 | some c=>
  rw [hf] at hv ap;clear hf;unfold fcV vaV at ap;dsimp only at ap hv;have ri:=fun w=>Zt c.ck c.cn 0 ⟨#[]⟩ w
  cases ht:(c.type != 2)
  case true=>
   rw [if_pos (by simpa using ht)] at hv;have HV:=Nf hv;clear hv
   go_enter Tryz.func133,Tryz.ntmps133
   exact Uc8
  rw [if_neg (by simpa using ht)] at hv
  cases hq:K9 c.ck c.cn 0 ⟨#[]⟩
  ·rw [hq,if_neg Uh] at hv;exact Br
  ·rw [hq,if_pos rfl] at hv;exact Br
end Go.Proofs.YtdgjplldlfeolaaGreatDoor
namespace Go.Proofs.YtdgjplldlfeolaaGreatDoor
open Go.RowKit
theorem Jgq:∀(l:List Va) (s:ByteArray) (i j:Int),Xf l s i=some j->∃(k:Nat) (v:Va),j=i+k/\l[k]?=some v/\Xb l s=some v
 | [],_,_,_,h=>by simp [Xf] at h
 | v :: l,s,i,j,h=>by
  unfold Xf at h
  by_cases hs:s.data=v.name.data
  ·rw [if_pos hs] at h;have hj:i=j:=by injection h
   have he:v.name=s:=by ext1;exact hs.symm
   exact⟨0,v,Ua,rfl,by rw [Xb,if_pos];rw [he];simp⟩
  ·rw [if_neg hs] at h;obtain⟨k,u,h1,h2,h3⟩:=Jgq l s (i+1) j h;refine⟨k+1,u,Ua,Lw,?_⟩;rw [Xb,if_neg,h3];rw [Zf];intro he;exact hs (by rw [he])
theorem Y5 (l:List Va) (s:ByteArray):(Jp l s = -1/\Xb l s=none)\/∃(k:Nat) (v:Va),Jp l s=(k:Int)/\l[k]?=some v/\Xb l s=some v:=by
 unfold Jp Qi
 cases h:Xf l s 0 with
 | none=>exact .inl ⟨rfl,Jks l s 0 h⟩
 | some j=>
  obtain⟨k,v,h1,h2,h3⟩:=Jgq l s 0 j h;exact .inr ⟨k,v,by simp only [Option.getD_some];omega,h2,h3⟩
def K4 (k:Int) (s:ByteArray) (c:Int×ByteArray) (i:Nat):Int×ByteArray:=if k=10 then(1+(i:Int),s) else if k=8\/k=9 then(0,⟨#[]⟩) else c
end Go.Proofs.YtdgjplldlfeolaaGreatDoor
namespace Go.Proofs.YtdgjplldlfeolaaGreatDoor
open Go.RowKit Go.Sort Go.Maps Go.ChangeMaps Go.WideMaps
def Jaj (P:Program) (k e:TypeId) (w:World) (b n:Nat) (f:ByteArray->Option Int) (c:Nat):Prop:=
 ∃D:DataW Unit,w.ownsMap P k (plainElem P e) b n D/\Maps.Tidy D/\Maps.size D=c/\
  ∀s:ByteArray,Maps.has D (.string s.data.toList)=(f s).isSome/\D.atKey (.string s.data.toList) (.lit (.int .i64 0)) = .lit (.int .i64 ((f s).getD 0))
def Jck (f:ByteArray->Option Int) (s:ByteArray):ByteArray->Option Int:=fun t=>if t.data=s.data then none else f t
section
variable {P:Program} {k e:TypeId} {w w':World} {b n c:Nat} {f:ByteArray->Option Int}
theorem Jaj.made (w:World):Jaj P k e (w.alloc (.map #[] 0)) w.heap.size 0 (fun _=>none) 0:=
 ⟨.map [],World.ownsMap_made w P k _,Maps.tidy_empty,rfl,fun s=>⟨rfl,rfl⟩⟩
theorem Jaj.keep1 (h:Jaj P k e w b n f c) (hb:w'.heap[b]?=w.heap[b]?):Jaj P k e w' b n f c:=by
 exact Ubv
theorem Jaj.lt (h:Jaj P k e w b n f c):b<w.heap.size:=by
 exact Ub7
theorem Jaj.bel (h:Jaj P k e w b n f c) (hb:Below w.heap.size w w'):Jaj P k e w' b n f c:=h.keep1 (hb.block b h.lt)
theorem Jaj.plain (h:Jaj P k e w b n f c):Jz P k e w b n f:=by
 obtain⟨D,h1,h2,_,h3⟩:=h;exact⟨D,h1,h2.isMap,h3⟩
theorem Jte {ops:Array Oper} {rest:List Oper} {o:Oper} {a:Act} {Q:Exit->Act->World->Prop} (hg:o.guard=none) (m x v:Operand) (t:TypeId) (jf:o.op=Op.mapUpdate t m x v)
  (hk:P.underlying k=some .string) (ht:P.underlying t=some (.map k e)) (he:P.underlying e=some (.int .i64))
  (b n:Nat) (f:ByteArray->Option Int) (c:Nat) (s:ByteArray) (i:Int) (hm:a.eval m = .map (some b)) (ae:Jaj P k e w b n f c) (hn:n<1000000000) (hx:a.eval x = .string s) (hv:a.eval v = .int .i64 i)
  (hs:s.size<=maxLen) (hi : -9223372036854775808<=i/\i<=9223372036854775807)
  (hK:∀w',Jaj P k e w' b (n+1) (upd f s i) (if (f s).isSome then c else c+1)->w.grownBy w' (some b)->wpList P ops Q rest (a.put o.dst undef) w'):wpList P ops Q (o :: rest) a w:=by
 obtain⟨D,h1,h2,hc,h3⟩:=ae;refine wpList_mapUpdate_own w hg m x v t jf k e (string_keyed hk) ht _ b n D hm h1 Uo _ _ _ hx hv (keyOf_string_mk hk hs) _ [] (plainElem_int he (WalkArith.wf_i64 hi)) fun w' h4 h5=>hK w' ⟨_,h4,h2.put (show WideAt.IsKeyLit (.string s.data.toList) by trivial) _,?_,fun t=>?_⟩ h5
 ·rw [Maps.size_put h2,(h3 s).1,hc]
 ·by_cases aU:t.data=s.data
  ·have dz:WideAt.IsKeyLit (.string s.data.toList):=by trivial
   rw [aU,has_put_same h2.isMap dz,atKey_put_same h2.isMap dz];simp [upd,aU]
  ·exact Uai
theorem Jjl {ops:Array Oper} {rest:List Oper} {o:Oper} {a:Act} {Q:Exit->Act->World->Prop} (hg:o.guard=none) (m x:Operand) (t:TypeId) (jf:o.op=Op.call {callee:=Callee.builtin Builtin.delete,args:=#[m,x],argTypes:=#[t,k]})
  (hk:P.underlying k=some .string) (ht:P.underlying t=some (.map k e))
  (b n:Nat) (f:ByteArray->Option Int) (c:Nat) (s:ByteArray) (hm:a.eval m = .map (some b)) (ae:Jaj P k e w b n f c) (hx:a.eval x = .string s) (hs:s.size<=maxLen)
  (hK:∀w' c',Jaj P k e w' b n (Jck f s) c'->c'+(if (f s).isSome then 1 else 0)=c->w.grownBy w' (some b)->wpList P ops Q rest (a.put o.dst (.tuple #[])) w'):wpList P ops Q (o :: rest) a w:=by
 obtain⟨D,h1,h2,hc,h3⟩:=ae;refine wpList_delete_own w hg m x t k jf e (string_keyed hk) ht _ b n D hm h1 _ _ hx (keyOf_string_mk hk hs) fun w' h4 h5=>hK w' _ ⟨_,h4,h2.del _,rfl,fun t=>?_⟩ ?_ h5.grown
 ·by_cases aU:t.data=s.data
  ·rw [aU,Maps.has_del_same,Maps.atKey_del_same];simp [Jck,aU]
  ·have aS:(Lit.string t.data.toList)≠ .string s.data.toList:=by
    intro h;injection h with h;exact aU Lf
   rw [Maps.has_del_other aS,Maps.atKey_del_other aS,(h3 t).1,(h3 t).2];simp [Jck,aU]
 ·have:=Maps.size_del (k:= .string s.data.toList) h2;rw [(h3 s).1] at this;rw [<-hc];exact this
theorem Jjm {ops:Array Oper} {rest:List Oper} {o:Oper} {a:Act} {Q:Exit->Act->World->Prop} (hg:o.guard=none) (m:Operand) (t:TypeId) (jf:o.op=Op.call {callee:=Callee.builtin Builtin.len,args:=#[m],argTypes:=#[t]})
  (ht:P.underlying t=some (.map k e)) (b n:Nat) (f:ByteArray->Option Int) (c:Nat) (hm:a.eval m = .map (some b)) (ae:Jaj P k e w b n f c)
  (hK:wpList P ops Q rest (a.put o.dst (.int .i64 c)) w):wpList P ops Q (o :: rest) a w:=by
 obtain⟨D,h1,h2,hc,h3⟩:=ae;refine wpList_len_own w hg m t jf k e ht _ b n D hm h1 ?_;rw [hc];exact hK
end
def Jn7 (v:Value):Option (DataW Value×List MemPlace):=some (.held v,[])
def Jaz (P:Program) (k:TypeId) (w:World) (b n:Nat) (f:ByteArray->Option Value):Prop:=
 ∃D:DataW Value,w.ownsMap P k Jn7 b n D/\Maps.IsMap D/\
  ∀(s:ByteArray) (z:Value),D.atKey (.string s.data.toList) (.held z) = .held ((f s).getD z)
def Jki (f:ByteArray->Option Value) (s:ByteArray) (v:Value):ByteArray->Option Value:=fun t=>if t.data=s.data then some v else f t
section
variable {P:Program} {k e:TypeId} {w w':World} {b n:Nat} {f:ByteArray->Option Value}
theorem Jaz.made (w:World):Jaz P k (w.alloc (.map #[] 0)) w.heap.size 0 (fun _=>none):=
 ⟨.map [],World.ownsMap_made w P k _,isMap_empty,fun s z=>rfl⟩
theorem Jaz.keep1 (h:Jaz P k w b n f) (hb:w'.heap[b]?=w.heap[b]?):Jaz P k w' b n f:=by
 exact Ubv
theorem Jaz.lt (h:Jaz P k w b n f):b<w.heap.size:=by
 exact Ub7
theorem Jaz.bel (h:Jaz P k w b n f) (hb:Below w.heap.size w w'):Jaz P k w' b n f:=h.keep1 (hb.block b h.lt)
theorem Jel {ops:Array Oper} {rest:List Oper} {o:Oper} {a:Act} {Q:Exit->Act->World->Prop} (hg:o.guard=none) (m x:Operand) (t:TypeId) (jf:o.op=Op.lookup t m x false)
  (hk:P.underlying k=some .string) (ht:P.underlying t=some (.map k e)) (z:Value) (hz:(zeroValue e).run P w = .ok z w)
  (b n:Nat) (f:ByteArray->Option Value) (s:ByteArray) (hm:a.eval m = .map (some b)) (ae:Jaz P k w b n f) (hx:a.eval x = .string s) (hs:s.size<=maxLen)
  (hK:wpList P ops Q rest (a.put o.dst ((f s).getD z)) w):wpList P ops Q (o :: rest) a w:=by
 obtain⟨D,h1,h2,h3⟩:=ae;refine wpList_plain hg fun K' hK'=>?_;obtain⟨v,ps,eH,hv⟩:=h1.lookup (string_keyed hk) ht hz (R:=Jn7) rfl (keyOf_string_mk hk hs)
 have he:v=(f s).getD z:=by
  rw [h3 s z] at hv;exact Ubr
 subst he;unfold Oper.wp;simp [execOp,jf,hm,hx,eH,Result.andThen];exact hK' _ _ hK
theorem Jlj {ops:Array Oper} {rest:List Oper} {o:Oper} {a:Act} {Q:Exit->Act->World->Prop} (hg:o.guard=none) (m x v:Operand) (t:TypeId) (jf:o.op=Op.mapUpdate t m x v)
  (hk:P.underlying k=some .string) (ht:P.underlying t=some (.map k e))
  (b n:Nat) (f:ByteArray->Option Value) (s:ByteArray) (i:Value) (hm:a.eval m = .map (some b)) (ae:Jaz P k w b n f) (hn:n<1000000000) (hx:a.eval x = .string s) (hv:a.eval v=i)
  (hs:s.size<=maxLen)
  (hK:∀w',Jaz P k w' b (n+1) (Jki f s i)->w.grownBy w' (some b)->wpList P ops Q rest (a.put o.dst undef) w'):wpList P ops Q (o :: rest) a w:=by
 obtain⟨D,h1,h2,h3⟩:=ae;refine wpList_mapUpdate_own w hg m x v t jf k e (string_keyed hk) ht Jn7 b n D hm h1 Uo _ _ _ hx hv (keyOf_string_mk hk hs) (.held i) [] rfl fun w' h4 h5=>hK w' ⟨_,h4,h2.put _ _,fun t z=>?_⟩ h5
 by_cases aU:t.data=s.data
 ·have dz:WideAt.IsKeyLit (.string s.data.toList):=by trivial
  rw [aU,atKey_put_same h2 dz];simp [Jki,aU]
 ·have aS:(Lit.string t.data.toList)≠ .string s.data.toList:=by
   intro h;injection h with h;exact aU Lf
  rw [atKey_put_other aS,h3 t z];simp [Jki,aU]
end
end Go.Proofs.YtdgjplldlfeolaaGreatDoor
namespace Go.Proofs.YtdgjplldlfeolaaGreatDoor
open Go.ChangeShapes Go.WideShapes Go.ChangeAt Go.RowKit Go.Deep
section
variable {H:Type} {enc:TypeId×Value->H} {w:World} {spare:Nat->Bool} {held:Bool}
theorem Jdi:Tryz.prog.cellsOf 3=1:=Ue
theorem Ja1:Tryz.prog.cellsOf 9=1:=Ue
theorem Jeq:Tryz.prog.cellsOf 81=2:=Ue
def Jmh (v:Va):Prop:=v.name.size<=maxLen/\I64 v.type/\I64 v.ck/\v.cn.size<=maxLen
def Jtj (q:Qe):Prop:=q.name.size<=maxLen/\I64 q.delay/\q.first.OK/\q.e.OK
structure Ke5 (p:Pr):Prop where
 name:p.name.size<=maxLen
 ins:∀v∈p.ins,Jmh v
 outs:∀v∈p.outs,Jmh v
 locals:∀v∈p.locals,Jmh v
 eqs:∀q∈p.eqs,Jtj q
end
section
variable {H:Type} {enc:TypeId×Value->H} {P:Program}
theorem Jn4 {f:Func} {s:ChangeSpec} {apart fresh handsOn again:Bool} {W W':World} {args:Array Value} {v:Value} {ds gs:List (DataW H)} {before pa pv:List MemPlace}
  (hW:DataW.Whole enc P f.params.toList s.vars apart W args.toList ds gs before)
  (iE:∀(b:Nat) (sp:Nat->Bool) (hd:Bool),DataW.TrodAll enc P W' b sp hd f.resultTypes.toList (v.resultList f.resultTypes.size) (s.fn H (ds ++ gs)).results [])
  (sc:∀sp:Nat->Bool,(∀p∈before,sp p.block=true)->DataW.TrodAll enc P W' 0 sp true f.params.toList args.toList (s.fn H (ds ++ gs)).args pa)
  (aJ:∀sp:Nat->Bool,(∀p∈before,sp p.block=true)->DataW.TrodVars enc P W' sp s.vars (s.fn H (ds ++ gs)).vars pv)
  (wu:before=pa ++ pv) (hb:Below W.heap.size W W')
  (aw:∀(j:Nat) (t:TypeId) (r:Value),f.resultTypes[j]?=some t->(v.resultList f.resultTypes.size)[j]?=some r->Value.okWide P W' .any 0 t r) :
  s.post enc P f apart fresh handsOn again W args v W':=by
 have am:∀p∈before,p.block<W.heap.size:=fun p hp=>hW.lt p hp;have xh:∀p∈before,(fun b=>decide (b<W.heap.size)) p.block=true:=fun p hp=>by simpa using am p hp
 refine⟨ds,gs,before,[],pa,pv,hW,iE _ _ _,sc _ xh,aJ _ xh,World.keptBut_mono (fun p hp=>⟨hp,?_⟩) (hb.frame (·∈before)),fun _=>?_⟩
 ·rw [wu,List.mem_append] at hp;exact Or.inr hp
 ·obtain⟨_,_,_,_,_,hz,hn⟩:=hW;refine⟨aw,_,_,([] ++ pa) ++ pv,⟨[] ++ pa,pv,trodAll_append (sc _ (fun _ _=>rfl)) (iE _ _ _),aJ _ (fun _ _=>rfl),rfl,?_,?_⟩,?_⟩
  ·intro b off hp;have dV:MemPlace.cell b off∈before:=by rw [wu];simpa using hp
   rw [hb.frozen (am _ dV)];exact hz b off dV
  ·intro ha;have:=hn ha;rw [wu] at this;simpa using this
  ·intro p hp _;rw [wu];simpa using hp
end
theorem Tryz.own:ownKnob Tryz.prog.godebug=none:=Ue
theorem Tryz.laidOut:laidOutB Tryz.prog=true:=Ue
end Go.Proofs.YtdgjplldlfeolaaGreatDoor
