/- Lemmas. -/
import Derived.Test.YtknfcamdfdfoeaaGreatDoorMac
import Derived.Test.YtknfcamdfdfoeaaGreatDoorZ04
import Derived.Test.YtknfcamdfdfoeaaGreatDoorZ02
import Derived.Test.YtknfcamdfdfoeaaGreatDoorRows
import Derived.Test.YtknfcamdfdfoeaaGreatDoorZ00
import Derived.Test.YtknfcamdfdfoeaaGreatDoorZ03
import Derived.Test.YtknfcamdfdfoeaaGreatDoorZ05
import Derived.Test.YtknfcamdfdfoeaaGreatDoorZ01
import Derived.IntWalk
import Derived.Test.YtknfcamdfdfoeaaGreatDoorZ06
set_option linter.unusedVariables false
set_option linter.unusedSimpArgs false
set_option maxRecDepth 100000
set_option maxHeartbeats 64000000
namespace Go.Proofs.YtknfcamdfdfoeaaGreatDoor
open Go.RowKit
theorem Jks:∀(l:List Va) (s:ByteArray) (i:Int),Xf l s i=none->Xb l s=none
 | [],_,_,_=>rfl
 | v :: l,s,i,h=>by
  unfold Xf at h
  split at h
  ·cases h
  ·rename_i hn;rw [Xb,if_neg,Jks l s (i+1) h];rw [Zf];intro he;exact hn (by rw [he])
def Jp (l:List Va) (s:ByteArray):Int:=(Qi l s).getD (-1)
theorem Jtv {x:Va} {l:List Va} {s:ByteArray} {i:Int} (h:(x.name.toList == s.toList)=true):Xf (x :: l) s i=some i:=by
 rw [Zf] at h;unfold Xf;rw [if_pos Ti]
theorem Jrt {x:Va} {l:List Va} {s:ByteArray} {i:Int} (h:(x.name.toList == s.toList)=false):Xf (x :: l) s i=Xf l s (i+1):=by
 have hn:¬s.data=x.name.data:=by
  intro he;have:x.name=s:=Ss;rw [this] at h;exact Lt
 rw [Xf,if_neg hn]
def Y1 (a b:Int):Int:=if a=b then a else 0
def Jbw (op t:Int):Int:=
 if t=0 then 0 else if 8<=op/\op<=10 then t else if op=11\/op=12 then 2 else if t≠1 then 0 else if op<=7 then 1 else 2
def kR (k n named:Int) (ts:List Int):Int:=
 if k=1 then 1 else if k=2 then 2 else if k=3 then named
 else if k=4 then(if n=1/\ts.getD 0 0=1\/n=2/\ts.getD 0 0=2 then ts.getD 0 0 else 0)
 else if k=5 then Jbw n (Y1 (ts.getD 0 0) (ts.getD 1 0))
 else if k=6 then(if ts.getD 0 0=2 then Y1 (ts.getD 1 0) (ts.getD 2 0) else 0)
 else if k=7 then Y1 (ts.getD 0 0) (ts.getD 1 0)
 else if k=8\/k=9 then(if named=2 then ts.getD 0 0 else 0)
 else if k=10 then(if named=2 then Y1 (ts.getD 0 0) (ts.getD 1 0) else 0)
 else 0
def Zk (k:Int):Int×Int:=if k=1\/k=2 then(k,0) else(0,20)
theorem Jmc {ts:List Int} (h:∀t∈ts,t=1\/t=2) {i:Nat} (hi:i<ts.length):ts.getD i 0=1\/ts.getD i 0=2:=by
 have:ts.getD i 0=ts[i]:=by simp [List.getD,Ng hi]
 rw [this];exact h _ (Nj hi)
theorem Jzc (k n named:Int) (ts:List Int) (aU:∀t∈ts,t=1\/t=2) (hk:1<=k/\k<=10)
  (h4:k=4->(n=1\/n=2)/\1<=ts.length) (h5:k=5->1<=n/\n<=16/\2<=ts.length) (h6:k=6->3<=ts.length) (h7:k=7->2<=ts.length) (h8:k=8\/k=9->1<=ts.length) (bM:k=10->2<=ts.length) :
  Jbl (Je3 k n named ts).1 (Je3 k n named ts).2=Zk (kR k n named ts):=by
 have g0:=fun h=>Jmc aU (i:=0) h;have g1:=fun h=>Jmc aU (i:=1) h;have g2:=fun h=>Jmc aU (i:=2) h;have mI:k=1\/k=2\/k=3\/k=4\/k=5\/k=6\/k=7\/k=8\/k=9\/k=10:=Ua;unfold Je3 kR
 rcases mI with rfl|rfl|rfl|rfl|rfl|rfl|rfl|rfl|rfl|rfl
 ·simp [Jbl,Zk]
 ·simp [Jbl,Zk]
 ·simp [Jbl,Zk]
 ·obtain⟨hn,hl⟩:=h4 rfl
  rcases hn with rfl|rfl <;> rcases g0 Ua with ha|ha <;> simp [Jbl,Zk,List.getD,ha] <;> simp_all
 ·obtain⟨eR,eu,hl⟩:=h5 rfl;have hn:n=1\/n=2\/n=3\/n=4\/n=5\/n=6\/n=7\/n=8\/n=9\/n=10\/n=11\/n=12\/n=13\/n=14\/n=15\/n=16:=Ua;have b0:=g0 Ua;have b1:=g1 Ua;simp only [List.getD] at *
  rcases hn with rfl|rfl|rfl|rfl|rfl|rfl|rfl|rfl|rfl|rfl|rfl|rfl|rfl|rfl|rfl|rfl <;> rcases b0 with b0|b0 <;> rcases b1 with b1|b1 <;> simp [Jbl,Zk,Jcg,Jbw,Y1,b0,b1]
 ·have hl:=h6 rfl;have b0:=g0 Ua;have b1:=g1 Ua;have b2:=g2 Ua;simp only [List.getD] at *
  rcases b0 with b0|b0 <;> rcases b1 with b1|b1 <;> rcases b2 with b2|b2 <;> simp [Jbl,Zk,Y1,b0,b1,b2]
 ·have hl:=h7 rfl;have b0:=g0 Ua;have b1:=g1 Ua;simp only [List.getD] at *
  rcases b0 with b0|b0 <;> rcases b1 with b1|b1 <;> simp [Jbl,Zk,Y1,b0,b1]
 ·have hl:=h8 (.inl rfl);exact Uck
 ·have hl:=h8 (.inr rfl);exact Uck
 ·have hl:=bM rfl;have b0:=g0 Ua;have b1:=g1 Ua;simp only [List.getD] at *
  by_cases hn:named=2 <;> rcases b0 with b0|b0 <;> rcases b1 with b1|b1 <;> simp [Jbl,Zk,Y1,b0,b1,hn]
def ofF (e:Ex) (l:List Va):Int×Int:=if e.right≠0 then(0,e.right) else e.typ l
def Y3 (l:List Qe) (s:ByteArray):Bool:=l.any fun x=>x.name.toList == s.toList
theorem Jqg (l:List Qe) (q:Qe) (s:ByteArray):Y3 (l ++ [q]) s=(Y3 l s || q.name.toList == s.toList):=by
 unfold Y3;rw [List.any_append];simp
def Jfa (d:ByteArray->Option Int) (l:List Qe):Prop:=∀s,(Y3 l s=true->0<(d s).getD 0)/\(Y3 l s=false->(d s).getD 0=0)
theorem Jtg:Jfa (fun _=>none) []:=fun s=>⟨fun h=>by simp [Y3] at h,fun _=>rfl⟩
theorem Jqq {d:ByteArray->Option Int} {l:List Qe} (h:Jfa d l) (q:Qe):Jfa (upd d q.name ((d q.name).getD 0+1)) (l ++ [q]):=by
 intro s;rw [Jqg];have h1:=h s;have h2:=h q.name
 have h0:0<=(d q.name).getD 0:=by
  cases hs:Y3 l q.name
  ·rw [h2.2 hs];omega
  ·have:=h2.1 hs;omega
 unfold upd
 by_cases hs:s.data=q.name.data
 ·rw [if_pos hs];have he:q.name=s:=by ext1;exact hs.symm
  have:(q.name.toList == s.toList)=true:=by rw [he];simp
  rw [this];refine⟨fun _=>by simp only [Option.getD_some];omega,fun h=>Lt⟩
 ·rw [if_neg hs]
  have:(q.name.toList == s.toList)=false:=by
   cases hb:(q.name.toList == s.toList)
   ·exact Gd
   ·rw [Zf] at hb;exact absurd (by rw [hb]) hs
  rw [this,Bool.or_false];exact h1
def Je6 (l:List Va) (ins:Int) (prev:List Qe) (q:Qe):Int:=
 if Jp l q.name<ins then 19
 else if Y3 prev q.name=true then 18
 else if (q.e.typ l).2≠0 then(q.e.typ l).2
 else if (q.e.typ l).1≠Zz l (Jp l q.name) then 20
 else if q.delay=1/\(q.first.typ l).1≠Zz l (Jp l q.name) then 20
 else 0
theorem Jwe {l:List Va} {ins:Int} (hi:0<=ins) {prev:List Qe} {d:ByteArray->Option Int} (hd:Jfa d prev) (q:Qe):Je6 l ins prev q=eqE l ins d q:=by
 unfold Je6 eqE Jp
 cases hf:Qi l q.name with
 | none=>simp only [Option.getD_none];rw [if_pos Ua]
 | some j=>
  simp only [Option.getD_some]
  by_cases h1:j<ins
  ·rw [if_pos h1,if_pos h1]
  rw [if_neg h1,if_neg h1];have h2:=hd q.name
  cases hs:Y3 prev q.name
  ·rw [if_neg (show ¬(false=true) by simp),if_neg (show ¬0<(d q.name).getD 0 by have:=h2.2 hs;omega)]
   by_cases h3:(q.e.typ l).2≠0
   ·rw [if_pos h3,if_pos h3]
   rw [if_neg h3,if_neg h3]
   by_cases h4:(q.e.typ l).1≠Zz l j
   ·rw [if_pos h4]
    by_cases h5:q.delay=1/\(q.first.typ l).1≠Zz l j
    ·rw [if_pos h5]
    ·rw [if_neg h5,if_pos h4]
   ·rw [if_neg h4]
    by_cases h5:q.delay=1/\(q.first.typ l).1≠Zz l j
    ·rw [if_pos h5,if_pos h5]
    ·rw [if_neg h5,if_neg h5,if_neg h4]
  ·rw [if_pos rfl,if_pos (h2.1 hs)]
theorem Jpx:∀(l:List Va) (k:Nat) (v:Va) (i:Int),l[k]?=some v->∃j,Xf l v.name i=some j/\i<=j/\j<=i+k
 | [],k,v,i,h=>Lt
 | x :: l,0,v,i,h=>by
  simp at h;subst h;exact⟨i,by rw [Xf,if_pos rfl],Ua,Ua⟩
 | x :: l,k+1,v,i,h=>by
  rw [Xf]
  by_cases hs:v.name.data=x.name.data
  ·rw [if_pos hs];exact⟨i,rfl,Ua,Ua⟩
  ·rw [if_neg hs];obtain⟨j,h1,h2,h3⟩:=Jpx l k v (i+1) Ve;exact⟨j,h1,Ua,Ua⟩
theorem Jek {l:List Va} {k:Nat} {v:Va} (h:l[k]?=some v):0<=Jp l v.name/\Jp l v.name<=k/\Jp l v.name=(Qi l v.name).getD 0:=by
 obtain⟨j,h1,h2,h3⟩:=Jpx l k v 0 h;unfold Jp Qi;rw [h1];exact⟨h2,by show j<=(k:Int);omega,rfl⟩
end Go.Proofs.YtknfcamdfdfoeaaGreatDoor
namespace Go.Proofs.YtknfcamdfdfoeaaGreatDoor
open Go.RowKit Go.Sort
theorem Xa (l:List Va) (A:Option Addr) (cap:Nat) (s:ByteArray) (w:World) (hl:Ju w l A cap) :
  Calls Tryz.prog 49 #[.slice A l.length cap,.string s] w fun r w'=>r = .returned (.int .i64 (Jp l s))/\Below w.heap.size w w':=by
 have ai:=hl.len;unfold maxLen at ai;obtain⟨jD,jE⟩:=ai
 go_enter Tryz.func49,Tryz.ntmps49
 go_wp2_with fail
 go_loopw [5] (fun i wr=>∃k:Nat,k<=l.length/\i = .int .i64 k/\Xf (l.drop k) s k=Qi l s/\Below w.heap.size w wr) (fun i _=>l.length-(intOf i).toNat)
 case atStart=>exact⟨0,Np,rfl,rfl,Jb⟩
 case round=>
  obtain⟨k,hk,rfl,aa,ab⟩:=hrel
  by_cases am:k<l.length
  ·obtain⟨x,hx,-,hd⟩:=Kl am;obtain⟨b,off,rfl,aH,⟨d0,d1,d2,d3⟩⟩:=(hl.later ab).get hx;rw [hd] at aa;clear hd hx
   cases dj:(x.name.toList == s.toList)
   ·rw [Jrt dj] at aa;have HR:=Nf aa;clear aa
    go_wp2_with fail
    go_roundw
    case rel=>exact⟨k+1,Ua,Up,by have:=HR.out;rw [<-this];congr 1,Jb⟩
    case measure=>simp [intOf];omega
   ·rw [Jtv dj] at aa;exact Ucv
  ·obtain rfl:k=l.length:=Ua;rw [Nn,Xf] at aa;exact Ucv
theorem Z3 (p:Pr) (a:PrA) (w:World) (hp:Kr w p a) (n1:p.ins.length<=1000000) (n2:p.outs.length<=1000000) (n3:p.locals.length<=1000000) :
  Calls Tryz.prog 26 #[prV p a] w fun r w'=>
   (∃A cap,r = .returned (.slice A (Je p).length cap)/\w'.ownsRow w.heap.size 57 4 (.slice A (Je p).length cap) (Je p).length (Xe (Je p)))/\Below w.heap.size w w':=by
 have ak:=hp.ins;have dm:=hp.outs;have kE:=hp.locals;obtain⟨A1,c1,A2,c2,A3,c3,A4,c4⟩:=a;dsimp only at ak dm kE;unfold prV;dsimp only
 go_enter Tryz.func26,Tryz.ntmps26
 go_wp2_with (first|(at_builtin;refine K6 rfl (.tmp 4) (.tmp 6) 22 rfl (w.heap.size+1) 57 _ 4 48 Tryz.underlying22 Jc8 rfl Ua (.slice none 0 0) 0 [] A1 p.ins.length c1 (Xe p.ins) rfl (Nw) rfl (ak.later Jb).cells (Jbg _) Ua Ua Ul ?_;intro v1 w1 ba ac;have aC:=Nd w w1 ((Jc (Nt) _).trans (ac.mono Ua));have af:w.heap.size+1<=w1.heap.size:=V9;have k2:=Nb w1 w.heap.size 2 (.slice A2 p.outs.length c2) Ud9;have k3:=Nb w1 w.heap.size 3 (.slice A3 p.locals.length c3) Ud9)|(at_builtin;refine K6 rfl (.tmp 8) (.tmp 10) 22 rfl (w.heap.size+1) 57 _ 4 48 Tryz.underlying22 Jc8 rfl Ua v1 (0+p.ins.length) ([] ++ Xe p.ins) A2 p.outs.length c2 (Xe p.outs) rfl ba rfl (dm.later aC).cells (Jbg _) Ua Ua af ?_;intro v2 w2 ao aq;have iY:=Nd w w2 (aC.trans (aq.mono Ua));have br:w.heap.size+1<=w2.heap.size:=Nat.le_trans af aq.size;have k3':=Nb w2 w.heap.size 3 (.slice A3 p.locals.length c3) ((aq.cell (p:=⟨w.heap.size,3,none⟩) Ul).trans k3))|(at_builtin;refine K6 rfl (.tmp 12) (.tmp 14) 22 rfl (w.heap.size+1) 57 _ 4 48 Tryz.underlying22 Jc8 rfl Ua v2 (0+p.ins.length+p.outs.length) ([] ++ Xe p.ins ++ Xe p.outs) A3 p.locals.length c3 (Xe p.locals) rfl ao rfl (kE.later iY).cells (Jbg _) Ua Ua br ?_;intro v3 w3 aE aM))
 go_ret;refine⟨?_,iY.trans (aM.mono Ua)⟩;exact Jol aE
theorem Jyu (n:Int) (w:World) (h1 : -2147483648<=n) (h2:n<=2147483647):Calls Tryz.prog 159 #[.int .i64 n] w fun r w'=>r = .returned (.string (Ja6 n))/\Below w.heap.size w w':=by
 by_cases hlo:n<1
 ·exact Ubl
 by_cases hhi:17<=n
 ·exact Ubl
 have hn:n=1\/n=2\/n=3\/n=4\/n=5\/n=6\/n=7\/n=8\/n=9\/n=10\/n=11\/n=12\/n=13\/n=14\/n=15\/n=16:=Ua;clear hlo hhi h1 h2
 rcases hn with rfl|rfl|rfl|rfl|rfl|rfl|rfl|rfl|rfl|rfl|rfl|rfl|rfl|rfl|rfl|rfl
 all_goals
  go_enter Tryz.func159,Tryz.ntmps159
  go_wp2_with fail
  go_ret;exact⟨rfl,Jb⟩
theorem Zp {e x:Ex} (hf:e.formed=true) (hz:e.size<=100000) (hx:x∈e.sub):x.showB.size<=4000000/\x.partB.size<=4000000:=by
 have h1:=Ex.showB_size x (Ex.formed_sub hf hx);obtain⟨k,hk⟩:=List.mem_iff_getElem?.1 hx;have h2:=Ex.size_sub hk;have h3:=Jkk x.kind x.showB;unfold Ex.partB;exact Ua
theorem Jwr {e:Ex} (hs:e.showB.size<=100000000) {A:Option Addr} {cap:Nat} {w:World} (he:Jt w e A cap)
  (bY:∀W,Jt W e A cap->Calls Tryz.prog 136 #[exV e A cap] W fun r w'=>r = .returned (.string e.showB)/\Below W.heap.size W w') :
  Calls Tryz.prog 158 #[exV e A cap] w fun r w'=>r = .returned (.string e.partB)/\Below w.heap.size w w':=by
 have hl:=he.len;unfold maxLen at hl;have hv:e.partB=brk e.kind e.showB:=rfl;unfold brk at hv;have az:=fun W h=>bY W (he.later h);unfold exV at az ⊢
 by_cases hk:e.kind=1\/e.kind=2\/e.kind=3\/e.kind=8\/e.kind=9
 ·rw [if_pos hk] at hv;have HV:=Nf hv;clear hv
  rcases hk with hk|hk|hk|hk|hk
  ·have k1:(e.kind == 1)=true:=Ud;exact Uf5
  ·have k1:(e.kind == 1)=false:=Ud;have k2:(e.kind == 2)=true:=Ud;exact Uf5
  ·have k1:(e.kind == 1)=false:=Ud;have k2:(e.kind == 2)=false:=Ud;have k3:(e.kind == 3)=true:=Ud;exact Uf5
  ·have k1:(e.kind == 1)=false:=Ud;have k2:(e.kind == 2)=false:=Ud;have k3:(e.kind == 3)=false:=Ud;have k8:(e.kind == 8)=true:=Ud;exact Uf5
  ·have k1:(e.kind == 1)=false:=Ud;have k2:(e.kind == 2)=false:=Ud;have k3:(e.kind == 3)=false:=Ud;have k8:(e.kind == 8)=false:=Ud;have k9:(e.kind == 9)=true:=Ud;exact Uf5
 ·rw [if_neg hk] at hv;have HV:=Nf hv;clear hv;have k1:(e.kind == 1)=false:=Uj;have k2:(e.kind == 2)=false:=Uj;have k3:(e.kind == 3)=false:=Uj;have k8:(e.kind == 8)=false:=Uj;have k9:(e.kind == 9)=false:=Uj
  go_enter Tryz.func158,Tryz.ntmps158
  go_wp2_with (first|(go_at_call 136;refine mo (az _ Jb) fun w1 ac ak af bV=>?_;(try simp at af)))
  exact Uef
def RT (e:Ex):Prop:=∀x∈e.sub,∀(B:Option Addr) (c:Nat) (W:World),Jt W x B c->(Calls Tryz.prog 136 #[exV x B c] W fun r w'=>r = .returned (.string x.showB)/\Below W.heap.size W w')/\
 (Calls Tryz.prog 158 #[exV x B c] W fun r w'=>r = .returned (.string x.partB)/\Below W.heap.size W w')
theorem Jy6 (e:Ex) (hf:e.formed=true) (eI:e.size<=100000) (ih:RT e) (A:Option Addr) (cap:Nat) (w:World) (he:Jt w e A cap) (hk:e.kind=1) :
  Calls Tryz.prog 136 #[exV e A cap] w fun r w'=>r = .returned (.string e.showB)/\Below w.heap.size w w':=by
 have hl:=he.len;unfold maxLen at hl;obtain⟨bI,aD⟩:=hl;have bg:Jl e.kind e.n e.name e.sub.length=true:=U5;unfold Jl Jw at bg;rw [hk] at bg;simp at bg;have q1:(e.kind == 1)=true:=Ud;have wN:=fun W=>Jn0 e.n W Ua Ua;have hv:e.showB=Zn e.n:=by rw [Ex.showB_eq,hk];simp [Ye]
 clear hf ih hk bg;unfold exV;have HV:=Nf hv;clear hv
 go_enter Tryz.func136,Tryz.ntmps136
 go_wp2_with (first|(go_at_call 157;refine mo (wN _) fun w1 ac ak af bV=>?_;(try simp at af)))
 go_ret;exact⟨Kk HV.out.symm,Jb⟩
theorem Jy3 (e:Ex) (hf:e.formed=true) (eI:e.size<=100000) (ih:RT e) (A:Option Addr) (cap:Nat) (w:World) (he:Jt w e A cap) (hk:e.kind=2) :
  Calls Tryz.prog 136 #[exV e A cap] w fun r w'=>r = .returned (.string e.showB)/\Below w.heap.size w w':=by
 have hl:=he.len;unfold maxLen at hl;obtain⟨bI,aD⟩:=hl;have bg:Jl e.kind e.n e.name e.sub.length=true:=U5;unfold Jl Jw at bg;rw [hk] at bg;simp at bg;have q1:(e.kind == 1)=false:=Ud;have q2:(e.kind == 2)=true:=Ud;have hn:e.n=0\/e.n=1:=Ua
 rcases hn with hn|hn
 ·have hv:e.showB=⟨#[102,97,108,115,101]⟩:=by rw [Ex.showB_eq,hk];simp [Ye,hn]
  have s1:(e.n == 1)=false:=D7;exact Ubr
 ·have hv:e.showB=⟨#[116,114,117,101]⟩:=by rw [Ex.showB_eq,hk];simp [Ye,hn]
  have s1:(e.n == 1)=true:=D7;exact Ubr
theorem Jy5 (e:Ex) (hf:e.formed=true) (eI:e.size<=100000) (ih:RT e) (A:Option Addr) (cap:Nat) (w:World) (he:Jt w e A cap) (hk:e.kind=3) :
  Calls Tryz.prog 136 #[exV e A cap] w fun r w'=>r = .returned (.string e.showB)/\Below w.heap.size w w':=by
 have hl:=he.len;unfold maxLen at hl;obtain⟨bI,aD⟩:=hl;have bg:Jl e.kind e.n e.name e.sub.length=true:=U5;unfold Jl Jw at bg;rw [hk] at bg;simp at bg;have q1:(e.kind == 1)=false:=Ud;have q2:(e.kind == 2)=false:=Ud;have q3:(e.kind == 3)=true:=Ud;have hv:e.showB=e.name:=by rw [Ex.showB_eq,hk];simp [Ye]
 clear hf ih hk bg;unfold exV;have HV:=Nf hv;clear hv
 go_enter Tryz.func136,Tryz.ntmps136
 go_wp2_with fail
 go_ret;exact⟨Kk HV.out.symm,Jb⟩
theorem Jxe (e:Ex) (hf:e.formed=true) (eI:e.size<=100000) (ih:RT e) (A:Option Addr) (cap:Nat) (w:World) (he:Jt w e A cap) (hk:e.kind=4) (hn:e.n=1) :
  Calls Tryz.prog 136 #[exV e A cap] w fun r w'=>r = .returned (.string e.showB)/\Below w.heap.size w w':=by
 have hl:=he.len;unfold maxLen at hl;obtain⟨bI,aD⟩:=hl;have bg:Jl e.kind e.n e.name e.sub.length=true:=U5;unfold Jl Jw at bg;rw [hk] at bg;simp at bg;have q1:(e.kind == 1)=false:=Ud;have q2:(e.kind == 2)=false:=Ud;have q3:(e.kind == 3)=false:=Ud;have q4:(e.kind == 4)=true:=Ud;have s1:(e.n == 1)=true:=D7;have ai:e.sub.length=1:=Ua;obtain⟨x,aT⟩:=Jcd ai;have hx:e.sub[0]?=some x:=Ff;have mx:=Ni hx;obtain⟨sx1,sx2⟩:=Zp hf eI mx;obtain⟨b,off,X,cx,rfl,c0,c1,c2,c3,dT⟩:=he.get hx;simp only [Nat.zero_mul,Nat.one_mul,Nat.add_zero] at c0 c1 c2 c3;have gt:b<w.heap.size:=Nu c0;have kH:b<w.heap.size+1:=Ua;have l0:0<e.sub.length:=Ua;have px:=fun W h=>(ih x mx X cx W (dT.later h)).2;have hv:e.showB=⟨#[45]⟩ ++ x.partB:=Gz;clear hf ih hk aT ai bg hn hx mx;unfold exV at *;generalize x.partB=t0 at *;have z0:¬9223372036854775807<1+t0.size:=Ua;have HV:=Nf hv;clear hv
 go_enter Tryz.func136,Tryz.ntmps136
 go_wp2_with (first|(go_at_call 158;refine mo (px _ Jb) fun w1 ac ak af bV=>?_;(try simp at af)))
 go_ret;exact⟨Kk HV.out.symm,Jb⟩
theorem Jxa (e:Ex) (hf:e.formed=true) (eI:e.size<=100000) (ih:RT e) (A:Option Addr) (cap:Nat) (w:World) (he:Jt w e A cap) (hk:e.kind=4) (hn:e.n=2) :
  Calls Tryz.prog 136 #[exV e A cap] w fun r w'=>r = .returned (.string e.showB)/\Below w.heap.size w w':=by
 have hl:=he.len;unfold maxLen at hl;obtain⟨bI,aD⟩:=hl;have bg:Jl e.kind e.n e.name e.sub.length=true:=U5;unfold Jl Jw at bg;rw [hk] at bg;simp at bg;have q1:(e.kind == 1)=false:=Ud;have q2:(e.kind == 2)=false:=Ud;have q3:(e.kind == 3)=false:=Ud;have q4:(e.kind == 4)=true:=Ud;have s1:(e.n == 1)=false:=D7;have ai:e.sub.length=1:=Ua;obtain⟨x,aT⟩:=Jcd ai;have hx:e.sub[0]?=some x:=Ff;have mx:=Ni hx;obtain⟨sx1,sx2⟩:=Zp hf eI mx;obtain⟨b,off,X,cx,rfl,c0,c1,c2,c3,dT⟩:=he.get hx;simp only [Nat.zero_mul,Nat.one_mul,Nat.add_zero] at c0 c1 c2 c3;have gt:b<w.heap.size:=Nu c0;have kH:b<w.heap.size+1:=Ua;have l0:0<e.sub.length:=Ua;have px:=fun W h=>(ih x mx X cx W (dT.later h)).2;have hv:e.showB=⟨#[110,111,116,32]⟩ ++ x.partB:=Gz;clear hf ih hk aT ai bg hn hx mx;unfold exV at *;generalize x.partB=t0 at *;have z0:¬9223372036854775807<4+t0.size:=Ua;have HV:=Nf hv;clear hv
 go_enter Tryz.func136,Tryz.ntmps136
 go_wp2_with (first|(go_at_call 158;refine mo (px _ Jb) fun w1 ac ak af bV=>?_;(try simp at af)))
 go_ret;exact⟨Kk HV.out.symm,Jb⟩
theorem Jzl (e:Ex) (hf:e.formed=true) (eI:e.size<=100000) (ih:RT e) (A:Option Addr) (cap:Nat) (w:World) (he:Jt w e A cap) (hk:e.kind=5) :
  Calls Tryz.prog 136 #[exV e A cap] w fun r w'=>r = .returned (.string e.showB)/\Below w.heap.size w w':=by
 have hl:=he.len;unfold maxLen at hl;obtain⟨bI,aD⟩:=hl;have bg:Jl e.kind e.n e.name e.sub.length=true:=U5;unfold Jl Jw at bg;rw [hk] at bg;simp at bg;have q1:(e.kind == 1)=false:=Ud;have q2:(e.kind == 2)=false:=Ud;have q3:(e.kind == 3)=false:=Ud;have q4:(e.kind == 4)=false:=Ud;have q5:(e.kind == 5)=true:=Ud;have eR:1<=e.n:=Ua;have eu:e.n<=16:=Ua;have xH:=Jhr e.n;have jf:=fun W=>Jyu e.n W Ua Ua;have hwr:IntKind.i64.wrap e.n=e.n:=IntWalk.i64_in _ Ua;have ai:e.sub.length=2:=Ua;obtain⟨x,y,aT⟩:=Jcn ai;have hx:e.sub[0]?=some x:=Ff;have mx:=Ni hx;obtain⟨sx1,sx2⟩:=Zp hf eI mx;have hy:e.sub[1]?=some y:=Ff;have my:=Ni hy;obtain⟨sy1,sy2⟩:=Zp hf eI my;obtain⟨b,off,X,cx,rfl,c0,c1,c2,c3,dT⟩:=he.get hx;obtain⟨b1,off1,Y,cy,ac,d0,d1,d2,d3,oN⟩:=he.get hy;simp only [Option.some.injEq,Addr.mk.injEq,and_true] at ac;obtain⟨rfl,rfl⟩:=ac;simp only [Nat.zero_mul,Nat.one_mul,Nat.add_zero] at c0 c1 c2 c3 d0 d1 d2 d3;have gt:b<w.heap.size:=Nu c0;have kH:b<w.heap.size+1:=Ua;have l0:0<e.sub.length:=Ua;have l1:1<e.sub.length:=Ua;have li1:(1:Int)<(e.sub.length:Int):=Ua;have px:=fun W h=>(ih x mx X cx W (dT.later h)).2;have py:=fun W h=>(ih y my Y cy W (oN.later h)).2;have hv:e.showB=x.partB ++ ⟨#[32]⟩ ++ Ja6 e.n ++ ⟨#[32]⟩ ++ y.partB:=Ld;clear hf ih hk aT ai bg hx mx hy my;unfold exV at *;generalize x.partB=t0 at *;generalize y.partB=t1 at *;generalize Ja6 e.n=mk at *;have z0:¬9223372036854775807<t0.size+1:=Ua;have z1:¬9223372036854775807<t0.size+1+mk.size:=Ua;have z2:¬9223372036854775807<t0.size+1+mk.size+1:=Ua;have z3:¬9223372036854775807<t0.size+1+mk.size+1+t1.size:=Ua;have HV:=Nf hv;clear hv
 go_enter Tryz.func136,Tryz.ntmps136
 go_wp2_with fail
 refine Jx Ug Ug (fun bj=>?_)
 repeat (quiet_step ((first|(go_at_call_of 158 X;exact Calls.regrown_of (px _ Jb))|(go_at_call_of 158 Y;exact Calls.regrown_of (py _ Jb))|(go_at_call 159;exact Calls.regrown_of (jf _)))))
 refine wpQuiet_nil ?_;intro wq au;replace au:=qbo au;obtain⟨au,dA,bh⟩:=au;clear bj
 (try simp at bh)
 go_wp2_with fail
 go_ret;exact⟨Kk HV.out.symm,Jb⟩
theorem Jy7 (e:Ex) (hf:e.formed=true) (eI:e.size<=100000) (ih:RT e) (A:Option Addr) (cap:Nat) (w:World) (he:Jt w e A cap) (hk:e.kind=6) :
  Calls Tryz.prog 136 #[exV e A cap] w fun r w'=>r = .returned (.string e.showB)/\Below w.heap.size w w':=by
 have hl:=he.len;unfold maxLen at hl;obtain⟨bI,aD⟩:=hl;have bg:Jl e.kind e.n e.name e.sub.length=true:=U5;unfold Jl Jw at bg;rw [hk] at bg;simp at bg;have q1:(e.kind == 1)=false:=Ud;have q2:(e.kind == 2)=false:=Ud;have q3:(e.kind == 3)=false:=Ud;have q4:(e.kind == 4)=false:=Ud;have q5:(e.kind == 5)=false:=Ud;have q6:(e.kind == 6)=true:=Ud;have ai:e.sub.length=3:=Ua;obtain⟨x,y,z,aT⟩:=Jn6 ai;have hx:e.sub[0]?=some x:=Ff;have mx:=Ni hx;obtain⟨sx1,sx2⟩:=Zp hf eI mx;have hy:e.sub[1]?=some y:=Ff;have my:=Ni hy;obtain⟨sy1,sy2⟩:=Zp hf eI my;have hz:e.sub[2]?=some z:=Ff;have mz:=Ni hz;obtain⟨sz1,sz2⟩:=Zp hf eI mz;obtain⟨b,off,X,cx,rfl,c0,c1,c2,c3,dT⟩:=he.get hx;obtain⟨b1,off1,Y,cy,ac,d0,d1,d2,d3,oN⟩:=he.get hy;simp only [Option.some.injEq,Addr.mk.injEq,and_true] at ac;obtain⟨rfl,rfl⟩:=ac;obtain⟨b2,off2,Z,cz,aq,g0,g1,g2,g3,cE⟩:=he.get hz;simp only [Option.some.injEq,Addr.mk.injEq,and_true] at aq;obtain⟨rfl,rfl⟩:=aq;simp only [Nat.zero_mul,Nat.one_mul,Nat.add_zero] at c0 c1 c2 c3 d0 d1 d2 d3 g0 g1 g2 g3;have gt:b<w.heap.size:=Nu c0;have kH:b<w.heap.size+1:=Ua;have l0:0<e.sub.length:=Ua;have l1:1<e.sub.length:=Ua;have l2:2<e.sub.length:=Ua;have li1:(1:Int)<(e.sub.length:Int):=Ua;have li2:(2:Int)<(e.sub.length:Int):=Ua;have px:=fun W h=>(ih x mx X cx W (dT.later h)).1;have py:=fun W h=>(ih y my Y cy W (oN.later h)).1;have pz:=fun W h=>(ih z mz Z cz W (cE.later h)).1;have hv:e.showB=⟨#[105,102,32]⟩ ++ x.showB ++ ⟨#[32,116,104,101,110,32]⟩ ++ y.showB ++ ⟨#[32,101,108,115,101,32]⟩ ++ z.showB:=by rw [Ex.showB_eq,Ex.showL_map,aT,hk];simp [Ye]
 clear hf ih hk aT ai bg hx mx hy my hz mz;unfold exV at *;generalize x.showB=t0 at *;generalize y.showB=t1 at *;generalize z.showB=t2 at *;have z0:¬9223372036854775807<3+t0.size:=Ua;have z1:¬9223372036854775807<3+t0.size+6:=Ua;have z2:¬9223372036854775807<3+t0.size+6+t1.size:=Ua;have z3:¬9223372036854775807<3+t0.size+6+t1.size+6:=Ua;have z4:¬9223372036854775807<3+t0.size+6+t1.size+6+t2.size:=Ua;have HV:=Nf hv;clear hv
 go_enter Tryz.func136,Tryz.ntmps136
 go_wp2_with fail
 refine Jx Ug Ug (fun bj=>?_)
 repeat (quiet_step ((first|(go_at_call_of 136 X;exact Calls.regrown_of (px _ Jb))|(go_at_call_of 136 Y;exact Calls.regrown_of (py _ Jb))|(go_at_call_of 136 Z;exact Calls.regrown_of (pz _ Jb)))))
 refine wpQuiet_nil ?_;intro wq au;replace au:=qbo au;obtain⟨au,dA,bh⟩:=au;clear bj
 (try simp at bh)
 go_wp2_with fail
 go_ret;exact⟨Kk HV.out.symm,Jb⟩
theorem Jy9 (e:Ex) (hf:e.formed=true) (eI:e.size<=100000) (ih:RT e) (A:Option Addr) (cap:Nat) (w:World) (he:Jt w e A cap) (hk:e.kind=7) :
  Calls Tryz.prog 136 #[exV e A cap] w fun r w'=>r = .returned (.string e.showB)/\Below w.heap.size w w':=by
 have hl:=he.len;unfold maxLen at hl;obtain⟨bI,aD⟩:=hl;have bg:Jl e.kind e.n e.name e.sub.length=true:=U5;unfold Jl Jw at bg;rw [hk] at bg;simp at bg;have q1:(e.kind == 1)=false:=Ud;have q2:(e.kind == 2)=false:=Ud;have q3:(e.kind == 3)=false:=Ud;have q4:(e.kind == 4)=false:=Ud;have q5:(e.kind == 5)=false:=Ud;have q6:(e.kind == 6)=false:=Ud;have q7:(e.kind == 7)=true:=Ud;have ai:e.sub.length=2:=Ua;obtain⟨x,y,aT⟩:=Jcn ai;have hx:e.sub[0]?=some x:=Ff;have mx:=Ni hx;obtain⟨sx1,sx2⟩:=Zp hf eI mx;have hy:e.sub[1]?=some y:=Ff;have my:=Ni hy;obtain⟨sy1,sy2⟩:=Zp hf eI my;obtain⟨b,off,X,cx,rfl,c0,c1,c2,c3,dT⟩:=he.get hx;obtain⟨b1,off1,Y,cy,ac,d0,d1,d2,d3,oN⟩:=he.get hy;simp only [Option.some.injEq,Addr.mk.injEq,and_true] at ac;obtain⟨rfl,rfl⟩:=ac;simp only [Nat.zero_mul,Nat.one_mul,Nat.add_zero] at c0 c1 c2 c3 d0 d1 d2 d3;have gt:b<w.heap.size:=Nu c0;have kH:b<w.heap.size+1:=Ua;have l0:0<e.sub.length:=Ua;have l1:1<e.sub.length:=Ua;have li1:(1:Int)<(e.sub.length:Int):=Ua;have px:=fun W h=>(ih x mx X cx W (dT.later h)).2;have py:=fun W h=>(ih y my Y cy W (oN.later h)).2;have hv:e.showB=x.partB ++ ⟨#[32,45,62,32]⟩ ++ y.partB:=Ld;clear hf ih hk aT ai bg hx mx hy my;unfold exV at *;generalize x.partB=t0 at *;generalize y.partB=t1 at *;have z0:¬9223372036854775807<t0.size+4:=Ua;have z1:¬9223372036854775807<t0.size+4+t1.size:=Ua;have HV:=Nf hv;clear hv
 go_enter Tryz.func136,Tryz.ntmps136
 go_wp2_with fail
 refine Jx Ug Ug (fun bj=>?_)
 repeat (quiet_step ((first|(go_at_call_of 158 X;exact Calls.regrown_of (px _ Jb))|(go_at_call_of 158 Y;exact Calls.regrown_of (py _ Jb)))))
 refine wpQuiet_nil ?_;intro wq au;replace au:=qbo au;obtain⟨au,dA,bh⟩:=au;clear bj
 (try simp at bh)
 go_wp2_with fail
 go_ret;exact⟨Kk HV.out.symm,Jb⟩
theorem Jzg (e:Ex) (hf:e.formed=true) (eI:e.size<=100000) (ih:RT e) (A:Option Addr) (cap:Nat) (w:World) (he:Jt w e A cap) (hk:e.kind=8) :
  Calls Tryz.prog 136 #[exV e A cap] w fun r w'=>r = .returned (.string e.showB)/\Below w.heap.size w w':=by
 have hl:=he.len;unfold maxLen at hl;obtain⟨bI,aD⟩:=hl;have bg:Jl e.kind e.n e.name e.sub.length=true:=U5;unfold Jl Jw at bg;rw [hk] at bg;simp at bg;have q1:(e.kind == 1)=false:=Ud;have q2:(e.kind == 2)=false:=Ud;have q3:(e.kind == 3)=false:=Ud;have q4:(e.kind == 4)=false:=Ud;have q5:(e.kind == 5)=false:=Ud;have q6:(e.kind == 6)=false:=Ud;have q7:(e.kind == 7)=false:=Ud;have q8:(e.kind == 8)=true:=Ud;have aL:e.name.size<=16:=Jaf (by simp_all);have ai:e.sub.length=1:=Ua;obtain⟨x,aT⟩:=Jcd ai;have hx:e.sub[0]?=some x:=Ff;have mx:=Ni hx;obtain⟨sx1,sx2⟩:=Zp hf eI mx;obtain⟨b,off,X,cx,rfl,c0,c1,c2,c3,dT⟩:=he.get hx;simp only [Nat.zero_mul,Nat.one_mul,Nat.add_zero] at c0 c1 c2 c3;have gt:b<w.heap.size:=Nu c0;have kH:b<w.heap.size+1:=Ua;have l0:0<e.sub.length:=Ua;have px:=fun W h=>(ih x mx X cx W (dT.later h)).2;have hv:e.showB=x.partB ++ ⟨#[32,119,104,101,110,32]⟩ ++ e.name:=Ld;clear hf ih hk aT ai bg hx mx;unfold exV at *;generalize x.partB=t0 at *;have z0:¬9223372036854775807<t0.size+6:=Ua;have z1:¬9223372036854775807<t0.size+6+e.name.size:=Ua;have HV:=Nf hv;clear hv
 go_enter Tryz.func136,Tryz.ntmps136
 go_wp2_with fail
 refine Jx Ug Ug (fun bj=>?_)
 repeat (quiet_step ((first|(go_at_call_of 158 X;exact Calls.regrown_of (px _ Jb)))))
 refine wpQuiet_nil ?_;intro wq au;replace au:=qbo au;obtain⟨au,dA,bh⟩:=au;clear bj
 (try simp at bh)
 go_wp2_with fail
 go_ret;exact⟨Kk HV.out.symm,Jb⟩
theorem Jy8 (e:Ex) (hf:e.formed=true) (eI:e.size<=100000) (ih:RT e) (A:Option Addr) (cap:Nat) (w:World) (he:Jt w e A cap) (hk:e.kind=9) :
  Calls Tryz.prog 136 #[exV e A cap] w fun r w'=>r = .returned (.string e.showB)/\Below w.heap.size w w':=by
 have hl:=he.len;unfold maxLen at hl;obtain⟨bI,aD⟩:=hl;have bg:Jl e.kind e.n e.name e.sub.length=true:=U5;unfold Jl Jw at bg;rw [hk] at bg;simp at bg;have q1:(e.kind == 1)=false:=Ud;have q2:(e.kind == 2)=false:=Ud;have q3:(e.kind == 3)=false:=Ud;have q4:(e.kind == 4)=false:=Ud;have q5:(e.kind == 5)=false:=Ud;have q6:(e.kind == 6)=false:=Ud;have q7:(e.kind == 7)=false:=Ud;have q8:(e.kind == 8)=false:=Ud;have q9:(e.kind == 9)=true:=Ud;have aL:e.name.size<=16:=Jaf (by simp_all);have ai:e.sub.length=1:=Ua;obtain⟨x,aT⟩:=Jcd ai;have hx:e.sub[0]?=some x:=Ff;have mx:=Ni hx;obtain⟨sx1,sx2⟩:=Zp hf eI mx;obtain⟨b,off,X,cx,rfl,c0,c1,c2,c3,dT⟩:=he.get hx;simp only [Nat.zero_mul,Nat.one_mul,Nat.add_zero] at c0 c1 c2 c3;have gt:b<w.heap.size:=Nu c0;have kH:b<w.heap.size+1:=Ua;have l0:0<e.sub.length:=Ua;have px:=fun W h=>(ih x mx X cx W (dT.later h)).2;have hv:e.showB=x.partB ++ ⟨#[32,117,110,108,101,115,115,32]⟩ ++ e.name:=Ld;clear hf ih hk aT ai bg hx mx;unfold exV at *;generalize x.partB=t0 at *;have z0:¬9223372036854775807<t0.size+8:=Ua;have z1:¬9223372036854775807<t0.size+8+e.name.size:=Ua;have HV:=Nf hv;clear hv
 go_enter Tryz.func136,Tryz.ntmps136
 go_wp2_with fail
 refine Jx Ug Ug (fun bj=>?_)
 repeat (quiet_step ((first|(go_at_call_of 158 X;exact Calls.regrown_of (px _ Jb)))))
 refine wpQuiet_nil ?_;intro wq au;replace au:=qbo au;obtain⟨au,dA,bh⟩:=au;clear bj
 (try simp at bh)
 go_wp2_with fail
 go_ret;exact⟨Kk HV.out.symm,Jb⟩
theorem Jx2 (e:Ex) (hf:e.formed=true) (eI:e.size<=100000) (ih:RT e) (A:Option Addr) (cap:Nat) (w:World) (he:Jt w e A cap) (hk:e.kind=10) :
  Calls Tryz.prog 136 #[exV e A cap] w fun r w'=>r = .returned (.string e.showB)/\Below w.heap.size w w':=by
 have hl:=he.len;unfold maxLen at hl;obtain⟨bI,aD⟩:=hl;have bg:Jl e.kind e.n e.name e.sub.length=true:=U5;unfold Jl Jw at bg;rw [hk] at bg;simp at bg;have q1:(e.kind == 1)=false:=Ud;have q2:(e.kind == 2)=false:=Ud;have q3:(e.kind == 3)=false:=Ud;have q4:(e.kind == 4)=false:=Ud;have q5:(e.kind == 5)=false:=Ud;have q6:(e.kind == 6)=false:=Ud;have q7:(e.kind == 7)=false:=Ud;have q8:(e.kind == 8)=false:=Ud;have q9:(e.kind == 9)=false:=Ud;have aL:e.name.size<=16:=Jaf (by simp_all);have ai:e.sub.length=2:=Ua;obtain⟨x,y,aT⟩:=Jcn ai;have hx:e.sub[0]?=some x:=Ff;have mx:=Ni hx;obtain⟨sx1,sx2⟩:=Zp hf eI mx;have hy:e.sub[1]?=some y:=Ff;have my:=Ni hy;obtain⟨sy1,sy2⟩:=Zp hf eI my;obtain⟨b,off,X,cx,rfl,c0,c1,c2,c3,dT⟩:=he.get hx;obtain⟨b1,off1,Y,cy,ac,d0,d1,d2,d3,oN⟩:=he.get hy;simp only [Option.some.injEq,Addr.mk.injEq,and_true] at ac;obtain⟨rfl,rfl⟩:=ac;simp only [Nat.zero_mul,Nat.one_mul,Nat.add_zero] at c0 c1 c2 c3 d0 d1 d2 d3;have gt:b<w.heap.size:=Nu c0;have kH:b<w.heap.size+1:=Ua;have l0:0<e.sub.length:=Ua;have l1:1<e.sub.length:=Ua;have li1:(1:Int)<(e.sub.length:Int):=Ua;have px:=fun W h=>(ih x mx X cx W (dT.later h)).2;have py:=fun W h=>(ih y my Y cy W (oN.later h)).2;have hv:e.showB=⟨#[109,101,114,103,101,32]⟩ ++ e.name ++ ⟨#[32]⟩ ++ x.partB ++ ⟨#[32]⟩ ++ y.partB:=Ld;clear hf ih hk aT ai bg hx mx hy my;unfold exV at *;generalize x.partB=t0 at *;generalize y.partB=t1 at *;have z0:¬9223372036854775807<6+e.name.size:=Ua;have z1:¬9223372036854775807<6+e.name.size+1:=Ua;have z2:¬9223372036854775807<6+e.name.size+1+t0.size:=Ua;have z3:¬9223372036854775807<6+e.name.size+1+t0.size+1:=Ua;have z4:¬9223372036854775807<6+e.name.size+1+t0.size+1+t1.size:=Ua;have HV:=Nf hv;clear hv
 go_enter Tryz.func136,Tryz.ntmps136
 go_wp2_with fail
 refine Jx Ug Ug (fun bj=>?_)
 repeat (quiet_step ((first|(go_at_call_of 158 X;exact Calls.regrown_of (px _ Jb))|(go_at_call_of 158 Y;exact Calls.regrown_of (py _ Jb)))))
 refine wpQuiet_nil ?_;intro wq au;replace au:=qbo au;obtain⟨au,dA,bh⟩:=au;clear bj
 (try simp at bh)
 go_wp2_with fail
 go_ret;exact⟨Kk HV.out.symm,Jb⟩
theorem Jhe (e:Ex):e.formed=true->e.size<=100000->∀(A:Option Addr) (cap:Nat) (w:World),Jt w e A cap->
  Calls Tryz.prog 136 #[exV e A cap] w fun r w'=>r = .returned (.string e.showB)/\Below w.heap.size w w':=by
 induction e using Ex.ind with
 | h e ih=>
 intro hf hz A cap w he
 have lm:RT e:=by
  intro x hx B c W hW;have h1:=Zp hf hz hx;obtain⟨k,hk⟩:=List.mem_iff_getElem?.1 hx;have h2:=Ex.size_sub hk;have ht:=fun W' h'=>ih x hx (Ex.formed_sub hf hx) Ua B c W' h';exact⟨ht W hW,Jwr Ua hW ht⟩
 rcases Jbc hf with hk|hk|hk|hk|hk|hk|hk|hk|hk|hk
 ·exact Jy6 e hf hz lm A cap w he hk
 ·exact Jy3 e hf hz lm A cap w he hk
 ·exact Jy5 e hf hz lm A cap w he hk
 ·have hn:e.n=1\/e.n=2:=by
   rw [Ex.formed_eq,Bool.and_eq_true] at hf;have bg:=hf.1;unfold Jl Jw at bg;rw [hk] at bg;simp at bg;omega
  rcases hn with hn|hn
  ·exact Jxe e hf hz lm A cap w he hk hn
  ·exact Jxa e hf hz lm A cap w he hk hn
 ·exact Jzl e hf hz lm A cap w he hk
 ·exact Jy7 e hf hz lm A cap w he hk
 ·exact Jy9 e hf hz lm A cap w he hk
 ·exact Jzg e hf hz lm A cap w he hk
 ·exact Jy8 e hf hz lm A cap w he hk
 ·exact Jx2 e hf hz lm A cap w he hk
theorem Jts (p:Pr):Ym p=⟨#[110,111,100,101,32]⟩ ++ p.name ++ ⟨#[32,40]⟩ ++ Y0 p.ins ++ ⟨#[41,32,114,101,116,117,114,110,115,32,40]⟩ ++ Y0 p.outs ++ ⟨#[41,59,10]⟩:=by
 unfold Ym;rw [Jij,Jij];apply WideShapes.bytes_inj;simp
theorem Jyf (s d:ByteArray):s ++ ⟨#[32,32]⟩ ++ d ++ ⟨#[59,10]⟩=s ++ (⟨#[32,32]⟩ ++ d ++ ⟨#[59,10]⟩):=by
 ext1;simp
theorem Jk6 (s:ByteArray) (q:Qe):Jhz s q =
  (if q.delay=1 then s ++ ⟨#[32,32]⟩ ++ q.name ++ ⟨#[32,61,32]⟩ ++ q.first.showB ++ ⟨#[32,102,98,121,32]⟩ else if q.delay=2 then s ++ ⟨#[32,32]⟩ ++ q.name ++ ⟨#[32,61,32]⟩ ++ ⟨#[112,114,101,32]⟩ else s ++ ⟨#[32,32]⟩ ++ q.name ++ ⟨#[32,61,32]⟩) ++ q.e.showB ++ ⟨#[59,10]⟩:=by
 unfold Jhz
 split
 ·ext1;simp
 ·split
  ·ext1;simp
  ·ext1;simp
theorem Jjs {l:List Va} (h:∀v∈l,Jb8 v):(Y0 l).size<=62 * l.length:=by
 have:=Jcl l h 0 ⟨#[]⟩;unfold Y0;simp only [Ko,List.size_toArray,Nm] at this;exact Ua
theorem Jfl (p:Pr) (a:PrA) (w:World) (hp:Kr w p a) (aw:Q4 p) (n1:p.ins.length<=1000000) (n2:p.outs.length<=1000000) (n3:p.locals.length<=1000000) (n4:p.eqs.length<=1000000) :
  Calls Tryz.prog 117 #[prV p a] w fun r w'=>r = .returned (.tuple #[.string (X8 p),.int .i64 (K5 p)])/\Below w.heap.size w w':=by
 have bI:=hp.ins.len;have aD:=hp.outs.len;have fD:=hp.locals.len;have cG:=hp.eqs.len;unfold maxLen at bI aD fD cG;obtain⟨bI,iw⟩:=bI;obtain⟨aD,cI⟩:=aD;obtain⟨fD,kV⟩:=fD;obtain⟨cG,sS⟩:=cG;have gd:=fun W h=>Jo2 p a W (hp.later h) aw;obtain⟨A1,c1,A2,c2,A3,c3,A4,c4⟩:=a;unfold prV at gd ⊢;dsimp only at *
 cases hw:Qw p
 ·have hv:K5 p=4:=Sh;have hs:X8 p=⟨#[]⟩:=Mz;have HS:=Nf hs;clear hs;have HV:=Nf hv;clear hv
  go_enter Tryz.func117,Tryz.ntmps117
  go_wp2_with (first|(go_at_call 133;refine mo (gd _ Jb) fun w1 ac ak af bV=>?_;(try simp at af)))
  go_ret2
  exact⟨by rw [HV.out,HS.out];rfl,Jb⟩
 obtain⟨aL,jT,jb,lj,qt⟩:=X4 hw;have hv:K5 p=if 4096<(Jal p).size then 3 else 0:=Sh;have HV:=Nf hv;clear hv;have vS:=Nf lj;clear lj;have qu:=Nf qt;clear qt;have mC:=fun W h=>Jm4 p.ins A1 c1 jT n1 W (hp.ins.later h);have mD:=fun W h=>Jm4 p.outs A2 c2 jb n2 W (hp.outs.later h);have z1:=Jjs jT;have z2:=Jjs jb;clear jT jb;have HPB:=Nf (show Jal p=Zs (Xr (if 0<p.locals.length then Ym p ++ ⟨#[118,97,114,10]⟩ else Ym p) p.locals ++ ⟨#[108,101,116,10]⟩) p.eqs ++ ⟨#[116,101,108,10]⟩ from rfl);have HHD:=Nf (Jts p);have y1:¬9223372036854775807<5+p.name.size:=Ua;have y2:¬9223372036854775807<5+p.name.size+2:=Ua;have y3:¬9223372036854775807<5+p.name.size+2+(Y0 p.ins).size:=Ua;have y4:¬9223372036854775807<5+p.name.size+2+(Y0 p.ins).size+11:=Ua;have y5:¬9223372036854775807<5+p.name.size+2+(Y0 p.ins).size+11+(Y0 p.outs).size:=Ua;have y6:¬9223372036854775807<5+p.name.size+2+(Y0 p.ins).size+11+(Y0 p.outs).size+3:=Ua;generalize Y0 p.ins=t1 at *;generalize Y0 p.outs=t2 at *
 go_enter Tryz.func117,Tryz.ntmps117
 go_wp2_with (first|(go_at_call 133;refine mo (gd _ Jb) fun w1 ac ak af bV=>?_;(try simp at af)))
 have hy1':=lt0 w w1;refine Jx Ug Ug (fun bj=>?_)
 repeat (quiet_step ((first|(go_at_call_of 134 A1;exact Calls.regrown_of (mC _ Jb))|(go_at_call_of 134 A2;exact Calls.regrown_of (mD _ Jb)))))
 refine wpQuiet_nil ?_;intro wq au;replace au:=qbo au;obtain⟨au,dA,bh⟩:=au;clear bj
 (try simp at bh)
 by_cases qv:0<p.locals.length
 ·have qw:(if 0<p.locals.length then Ym p ++ ⟨#[118,97,114,10]⟩ else Ym p)=Ym p ++ ⟨#[118,97,114,10]⟩:=if_pos qv;have vT:=Nf qw;clear qw
  go_wp2_with fail
  refine Jo fun W0 ag=>?_;have ax:=Nd w W0 Uo;have bD:w.heap.size<W0.heap.size:=Lk;have k3:=Nb W0 w.heap.size 3 (.slice A3 p.locals.length c3) Uc;have k4:=Nb W0 w.heap.size 4 (.slice A4 p.eqs.length c4) Uc;clear ag;have ip:=hp.locals.later ax;have bT:=hp.eqs.later ax;dsimp only at ip bT
  go_loopw [4,5] (fun o i wr=>∃(k:Nat) (s:ByteArray),k<=p.locals.length/\i = .int .i64 k/\o = .string s/\s.size<=200000000+70 * k/\Xr s (p.locals.drop k)=Xr (Ym p ++ ⟨#[118,97,114,10]⟩) p.locals/\Below W0.heap.size W0 wr) (fun _ i _=>p.locals.length-(intOf i).toNat)
  case atStart=>exact⟨0,_,Np,rfl,rfl,Uk,Tc,Nt⟩
  case round=>
   obtain⟨k,sx,hk,rfl,rfl,rV,aa,ab⟩:=hrel;have hc:=Jg ab;have bu:=ab.size;have fF:=lt0 w wr
   by_cases am:k<p.locals.length
   ·obtain⟨x,hx,-,hd⟩:=Kl am;obtain⟨b,off,rfl,aH,⟨d0,d1,d2,d3⟩⟩:=(ip.later ab).get hx;rw [hd,Xr,<-Jyf] at aa;have mn:=vS.out x (Ni hx);have hds:=Jc9 mn;have eA:=fun W=>Jml x mn W;unfold vaV at eA;have HR:=Nf aa;clear aa hd hx;exact Uf3
   ·exact Bw
 ·have qw:(if 0<p.locals.length then Ym p ++ ⟨#[118,97,114,10]⟩ else Ym p)=Ym p:=if_neg qv;have vT:=Nf qw;clear qw
  go_wp2_with fail
  refine Jo fun W0 ag=>?_;have ax:=Nd w W0 Uo;have bD:w.heap.size<W0.heap.size:=Lk;have k3:=Nb W0 w.heap.size 3 (.slice A3 p.locals.length c3) Uc;have k4:=Nb W0 w.heap.size 4 (.slice A4 p.eqs.length c4) Uc;clear ag;have ip:=hp.locals.later ax;have bT:=hp.eqs.later ax;dsimp only at ip bT
  go_loopw [4,5] (fun o i wr=>∃(k:Nat) (s:ByteArray),k<=p.locals.length/\i = .int .i64 k/\o = .string s/\s.size<=200000000+70 * k/\Xr s (p.locals.drop k)=Xr (Ym p) p.locals/\Below W0.heap.size W0 wr) (fun _ i _=>p.locals.length-(intOf i).toNat)
  case atStart=>exact⟨0,_,Np,rfl,rfl,Uk,Tc,Nt⟩
  case round=>
   obtain⟨k,sx,hk,rfl,rfl,rV,aa,ab⟩:=hrel;have hc:=Jg ab;have bu:=ab.size;have fF:=lt0 w wr
   by_cases am:k<p.locals.length
   ·exfalso;omega
   ·exact Bw
end Go.Proofs.YtknfcamdfdfoeaaGreatDoor
