/- Lemmas. -/
import Derived.Test.YtdgjplldlfeolaaGreatDoorMac
import Derived.Test.YtdgjplldlfeolaaGreatDoorY30
import Derived.Test.YtdgjplldlfeolaaGreatDoorY26
import Derived.Test.YtdgjplldlfeolaaGreatDoorY32
import Derived.Test.YtdgjplldlfeolaaGreatDoorY01
import Derived.Test.YtdgjplldlfeolaaGreatDoorY00
import Derived.Test.YtdgjplldlfeolaaGreatDoorY17
import Derived.Test.YtdgjplldlfeolaaGreatDoorY21
import Derived.Test.YtdgjplldlfeolaaGreatDoorY24
set_option linter.unusedVariables false
set_option linter.unusedSimpArgs false
set_option maxRecDepth 100000
set_option maxHeartbeats 64000000
namespace Go.Proofs.YtdgjplldlfeolaaGreatDoor
open Go.RowKit
namespace Ex
mutual
def simple:Ex->Bool
 | mk k _ _ l=>!(k == 7 || k == 8 || k == 9 || k == 10) && simpleL l
def simpleL:List Ex->Bool
 | []=>true
 | x :: l=>simple x && simpleL l
end
theorem simple_eq (e:Ex):e.simple=(!(e.kind == 7 || e.kind == 8 || e.kind == 9 || e.kind == 10) && simpleL e.sub):=by cases e;simp [simple,kind,sub]
end Ex
theorem Kp0 {h:Qe->Bool} : ∀(l:List Qe) (k:Nat),Zg h k l≠(0,0,0)->(Zg h k l).2.2≠0
 | [],k,hn=>absurd rfl hn
 | q :: r,k,hn=>by
  rw [Zg] at hn ⊢
  by_cases hq:h q=true
  ·rw [if_pos hq];show(23:Int)≠0;decide
  ·rw [if_neg hq] at hn ⊢;exact Kp0 r (k+1) hn
theorem Krb {p:Pr} (h:Ks p≠(0,0,0)):(Ks p).2.2≠0:=by
 unfold Ks at h ⊢
 by_cases hO:(Kot p).2=(0,0,0)
 ·rw [if_pos hO] at h ⊢;exact Kp0 _ _ h
 ·rw [if_neg hO];exact Jpj hO
theorem Ks3 {p:Pr} {v:Int} (h:(imE p v).2.2.2=0):Ks p=(0,0,0)/\¬16<(Jq p).length/\imE p v=(Jd8 p v,(0,0,0)):=by
 unfold imE at h ⊢
 by_cases hc:(Xg p).2.2=(0,0,0)
 ·rw [if_neg (by simpa using hc)] at h ⊢
  have hS:Ks p=(0,0,0)/\¬16<(Jq p).length:=by
   unfold Xg at hc
   by_cases et:(Kf p).2=(0,0,0)
   ·unfold Kf at et
    by_cases hs:Ks p=(0,0,0)
    ·rw [if_pos hs] at et
     by_cases h16:16<(Jq p).length
     ·rw [if_pos h16] at et;simp at et
     ·exact⟨hs,h16⟩
    ·rw [if_neg hs] at et;exact absurd et hs
   ·rw [if_neg et] at hc;exact absurd hc et
  refine⟨hS.1,hS.2,?_⟩
  by_cases hv:v=0
  ·rw [if_pos hv] at h;simp at h
  ·rw [if_neg hv] at h ⊢
   by_cases he:(Jdl (Jd8 p v)).2≠0
   ·rw [if_pos he] at h;exact absurd h he
   ·rw [if_neg he]
 ·rw [if_pos (by simpa using hc)] at h
  exfalso
  unfold Xg at h hc
  by_cases et:(Kf p).2=(0,0,0)
  ·rw [if_pos et] at h hc
   split at h
   ·exact Lc
   ·rename_i h6;rw [if_neg h6] at hc;exact hc rfl
  ·rw [if_neg et] at h;unfold Kf at h et
   by_cases hs:Ks p=(0,0,0)
   ·rw [if_pos hs] at h et
    split at h
    ·exact Lc
    ·rename_i h6;rw [if_neg h6] at et;exact et rfl
   ·rw [if_neg hs] at h;exact Krb hs h
theorem Kq4 {p:Pr} (h:Ks p=(0,0,0)):∃n,n<=(Jq p).length/\(∀k c,(Jq p)[k]?=some c->c.name.size<=16/\(c.name.toList.isEmpty=false<->k<n)):=by
 have hc:=Jff h;refine⟨((J0 p.eqs).map (Xm (Je p))).length,by unfold Jq;simp,fun k c hk=>?_⟩;unfold Jq at hk
 rcases Nat.lt_or_ge k ((J0 p.eqs).map (Xm (Je p))).length with am|qK
 ·rw [List.getElem?_append_left am] at hk;obtain⟨q,hq,rfl⟩:=List.mem_map.1 (Ni hk);have hf:=hc.eqs q (Z4 hq).1;exact⟨hf.name,fun _=>am,fun _=>hf.ne⟩
 ·rw [List.getElem?_append_right qK] at hk;unfold Kaq at hk;obtain⟨d,_,rfl⟩:=List.mem_map.1 (Ni hk);refine⟨Nq 16,fun h=>?_,fun h=>absurd h Ua⟩;simp [Jb6] at h
theorem Kqp {p:Pr} (h:Ks p=(0,0,0)):∀v∈Je p,v.name.size<=16:=fun v hv=>((Jff h).vars v hv).name
end Go.Proofs.YtdgjplldlfeolaaGreatDoor
namespace Go.Proofs.YtdgjplldlfeolaaGreatDoor
open Go.RowKit Go.Sort
theorem Kra (e:Ex):∀(A:Option Addr) (cap:Nat) (w:World),Jt w e A cap->
  Calls Tryz.prog 126 #[exV e A cap] w fun r w'=>r = .returned (.bool e.simple)/\Below w.heap.size w w':=by
 induction e using Ex.ind with
 | h e ih=>
 intro A cap w he;have hl:=he.len;unfold maxLen at hl;obtain⟨bI,aD⟩:=hl;have hv:=Ex.simple_eq e;unfold exV
 cases k7:(e.kind == 7)
 case true=>
  exact Uby
 cases k8:(e.kind == 8)
 case true=>
  exact Uby
 cases k9:(e.kind == 9)
 case true=>
  exact Uby
 cases k10:(e.kind == 10)
 case true=>
  exact Uby
 replace hv:e.simple=Ex.simpleL e.sub:=by rw [hv];simp [k7,k8,k9,k10]
 have HV:=Nf hv;clear hv
 go_enter Tryz.func126,Tryz.ntmps126
 go_wp2_with fail
 go_loopw [15] (fun i wr=>∃(k:Nat),k<=e.sub.length/\i = .int .i64 k/\Ex.simpleL (e.sub.drop k)=e.simple/\Below w.heap.size w wr) (fun i _=>e.sub.length-(intOf i).toNat)
 case atStart=>exact⟨0,Np,rfl,S8,Jb⟩
 case round=>
  obtain⟨k,hk,rfl,aa,ab⟩:=hrel
  by_cases am:k<e.sub.length
  ·obtain⟨x,hx,aj,hd⟩:=Kl am;obtain⟨b,off,A',cap',rfl,c0,c1,c2,c3,hs⟩:=(he.later ab).get hx;rw [hd,Ex.simpleL] at aa;have ihx:=ih x aj;unfold exV at ihx
   cases ew:x.simple
   ·rw [ew,Bool.false_and] at aa;rw [ew] at ihx;have HR:=Nf aa;clear aa hd hx
    go_wp2_with (go_at_call 126;refine(ihx A' cap' _ (hs.later Jb)).mono ?_;rintro r w2 ⟨rfl,aq⟩)
    go_ret;exact⟨Jk HR.out,Jb⟩
   ·rw [ew,Bool.true_and] at aa;rw [ew] at ihx;have HR:=Nf aa;clear aa hd hx
    go_wp2_with (go_at_call 126;refine(ihx A' cap' _ (hs.later Jb)).mono ?_;rintro r w2 ⟨rfl,aq⟩)
    exact Ubw
  ·have bk:k=e.sub.length:=Ua;rw [bk,Nn] at aa;rw [Ex.simpleL] at aa;have HR:=Nf aa;clear aa bk;exact Uc1
theorem Kpt {e:Ex} (hr:e.right=0):e.formed=true/\e.size<=120:=by
 obtain⟨h1,h2,h3⟩:=Ex.right_zero.1 hr;exact⟨h3,by have:=Ex.count_size e 121 Ua;omega⟩
theorem Kr6 (e:Ex) (hr:e.right=0) (A:Option Addr) (cap:Nat) (w:World) (he:Jt w e A cap) :
  Calls Tryz.prog 125 #[exV e A cap] w fun r w'=>r = .returned (.tuple #[.string e.showB,.int .i64 0])/\Below w.heap.size w w':=by
 obtain⟨hf,hz⟩:=Kpt hr;have aB:=fun W h=>Jnc e A cap W (he.later h);have bY:=fun W h=>Jhg e hf Ua A cap W (he.later h);rw [hr] at aB;clear he hf hr;unfold exV at *
 go_enter Tryz.func125,Tryz.ntmps125
 go_wp2_with (first|(go_at_call 21;refine mo (aB _ Jb) fun w1 ac ak af bV=>?_;(try simp at af))|(go_at_call 25;refine mo (bY _ Jb) fun w1 ac ak af bV=>?_;(try simp at af)))
 go_ret2
 exact⟨rfl,Jb⟩
theorem Krp (l:List (ByteArray×Ex)) (A:Option Addr) (cap:Nat) (w:World) (hl:Ko2 w l A cap) (hr:∀x∈l,x.2.right=0/\x.1.size<=100000) :
  Calls Tryz.prog 112 #[.slice A l.length cap] w fun r w'=>(∃s e,r = .returned (.tuple #[.string s,.int .i64 e]))/\Below w.heap.size w w':=by
 have bI:=hl.1;have aD:=hl.2.1;unfold maxLen at aD;have vi:=Nf hr;clear hr
 go_enter Tryz.func112,Tryz.ntmps112
 go_wp2_with fail
 go_loopw [4,11] (fun o i wr=>∃(k:Nat) (s:ByteArray),k<=l.length/\i = .int .i64 k/\o = .string s/\s.size<=200000/\Below w.heap.size w wr) (fun _ i _=>l.length-(intOf i).toNat)
 case atStart=>exact⟨0,⟨#[]⟩,Np,rfl,rfl,Np,Jb⟩
 case round=>
  obtain⟨k,s,hk,rfl,rfl,cE,ab⟩:=hrel;have hc:=Jg ab;have bu:=ab.size
  by_cases am:k<l.length
  ·obtain⟨x,hx,aj,hd⟩:=Kl am;obtain⟨b,off,A1,c1,rfl,aH,⟨d0,d1,d2,d3,d4,ds⟩⟩:=(hl.later ab).get hx;obtain⟨dC,xm⟩:=vi.out x aj;have hsw:=Ex.showB_size x.2 (Kpt dC).1;have hxz:=(Kpt dC).2;have bY:=fun W h=>Kr6 x.2 dC A1 c1 W (ds.later h);unfold exV at bY;clear hd hx aj dC
   cases hn:Kz x.1
   ·go_wp2_with (first|(go_at_call 125;refine mo (bY _ Jb) fun w1 ac ak af bV=>?_;(try simp at af))|(go_at_call 47;refine mo (Qt _ _) fun w1 ac ak af bV=>?_;(try simp at af)))
    go_ret2
    exact⟨⟨_,_,rfl⟩,Jb⟩
   ·by_cases dP:s.size<=4096
    ·have ac:(s.size:Int)<=4096:=Ua
     go_wp2_with (first|(go_at_call 125;refine mo (bY _ Jb) fun w1 ac ak af bV=>?_;(try simp at af))|(go_at_call 47;refine mo (Qt _ _) fun w1 ac ak af bV=>?_;(try simp at af)))
     go_roundw
     case rel=>exact⟨k+1,_,Ua,Uw,rfl,Up,Jb⟩
     case measure=>simp [intOf];omega
    ·have ac:¬(s.size:Int)<=4096:=Ua
     go_wp2_with (first|(go_at_call 125;refine mo (bY _ Jb) fun w1 ac ak af bV=>?_;(try simp at af))|(go_at_call 47;refine mo (Qt _ _) fun w1 ac ak af bV=>?_;(try simp at af)))
     go_roundw
     case rel=>exact⟨k+1,_,Ua,Uw,rfl,cE,Jb⟩
     case measure=>simp [intOf];omega
  ·by_cases dP:4096<s.size
   ·have ac:(4096:Int)<s.size:=Ua
    go_wp2_with fail
    go_ret2
    exact⟨⟨_,_,rfl⟩,Jb⟩
   ·have ac:¬(4096:Int)<s.size:=Ua
    go_wp2_with fail
    go_ret2
    exact⟨⟨_,_,rfl⟩,Jb⟩
def Kpj (ts:List Tk) (k:Nat) (m:ByteArray):Bool:=match ts[k]? with
 | some t=>t.kind == 4 && (t.text.toList == m.toList)
 | none=>false
theorem Kqq {ts:List Tk} {k:Nat} {m:ByteArray} (h:Kpj ts k m=true):k<ts.length:=by
 unfold Kpj at h
 rcases Nat.lt_or_ge k ts.length with am|qK
 ·exact am
 ·rw [List.getElem?_eq_none qK] at h;simp at h
theorem Kr4 {B g:Nat} {ts:List Tk} {A:Option Addr} {cap:Nat} (W:World) (h:Kg5 B W ts A cap) (c5:W.cell? ⟨g,0,none⟩=some (.slice A ts.length cap)) (k:Nat) (m:ByteArray) :
  Calls Tryz.prog 89 #[.int .i64 k,.string m,.pointer (some ⟨g,0,none⟩)] W fun r w'=>r = .returned (.bool (Kpj ts k m))/\W=w':=by
 have bO:=h.1;have fG:=h.2.1;unfold maxLen at fG
 by_cases am:k<ts.length
 ·have hk:ts[k]?=some ts[k]:=Ng am;have hv:Kpj ts k m=(ts[k].kind == 4 && (ts[k].text.toList == m.toList)):=by unfold Kpj;rw [hk]
  rw [hv];clear hv;generalize ts[k]=t at hk ⊢;obtain⟨b,off,rfl,hB,gt,⟨d0,d1,d2,d3⟩⟩:=h.get hk;have hki:(k:Int)<(ts.length:Int):=Ua;have hd:decide ((k:Int)<(ts.length:Int))=true:=Ui;clear h hk
  cases h4:(t.kind == 4)
  ·exact Ub0
  ·cases h5:(t.text.toList == m.toList)
   ·exact Ub0
   ·exact Ub0
 ·have hv:Kpj ts k m=false:=by unfold Kpj;rw [List.getElem?_eq_none Ua]
  have hd:decide ((k:Int)<(ts.length:Int))=false:=Ui;rw [hv];clear hv h;exact Ub0
theorem Krf {B g z:Nat} {ts:List Tk} {A:Option Addr} {cap:Nat} {s:ByteArray} (W:World) (h:Kg5 B W ts A cap) (c5:W.cell? ⟨g,0,none⟩=some (.slice A ts.length cap)) (c1:W.cell? ⟨z,0,none⟩=some (.string s)) (k:Nat) :
  Calls Tryz.prog 88 #[.int .i64 k,.pointer (some ⟨g,0,none⟩),.pointer (some ⟨z,0,none⟩)] W fun r w'=>(∃n,r = .returned (.int .i64 n))/\W=w':=by
 have bO:=h.1;have fG:=h.2.1;unfold maxLen at fG
 by_cases am:k<ts.length
 ·have hk:ts[k]?=some ts[k]:=Ng am;generalize ts[k]=t at hk;obtain⟨b,off,rfl,hB,gt,⟨d0,d1,d2,d3⟩⟩:=h.get hk;have hki:(k:Int)<(ts.length:Int):=Ua;have hd:decide ((k:Int)<(ts.length:Int))=true:=Ui;clear h hk
  go_enter Tryz.func88,Tryz.ntmps88
  go_wp2_with fail
  go_ret;exact⟨⟨_,rfl⟩,rfl⟩
 ·have hd:decide ((k:Int)<(ts.length:Int))=false:=Ui;clear h
  go_enter Tryz.func88,Tryz.ntmps88
  go_wp2_with fail
  go_ret;exact⟨⟨_,rfl⟩,rfl⟩
theorem Krk (w:World):Ko2 w [] none 0:=⟨Ns _,Np,fun h=>absurd h Uh⟩
def Ko9 (W:World) (r:Ending) (W':World):Prop:=
 (∃(l:List (ByteArray×Ex)) (A:Option Addr) (cap:Nat) (e m:Int),r = .returned (.tuple #[.slice A l.length cap,.int .i64 e,.int .i64 m])/\Ko2 W' l A cap/\(∀x∈l,x.2.right=0/\x.2.OK/\x.1.size<=4096)/\l.length<=5000)/\Below W.heap.size W W'
theorem Ko9.fault {W W':World} {r:Ending} {e m:Int} (hr:r = .returned (.tuple #[.slice none 0 0,.int .i64 e,.int .i64 m])) (hb:Below W.heap.size W W'):Ko9 W r W':=
 ⟨⟨[],none,0,e,m,hr,Krk _,Uh,Uh⟩,hb⟩
theorem Ktm:(Tryz.prog.info? 173).map (fun i=>(i.zero,i.size,i.bytes))=some (some (.agg #[.string ⟨#[]⟩,.int .i64 0,.int .i32 0,.string ⟨#[]⟩,.slice none 0 0]),5,72):=Ue
end Go.Proofs.YtdgjplldlfeolaaGreatDoor
