/- Lemmas. -/
import Derived.Test.YtknfcamdfdfoeaaGreatDoorMac
import Derived.Test.YtknfcamdfdfoeaaGreatDoorZ03
import Derived.Test.YtknfcamdfdfoeaaGreatDoorZ09
import Derived.Test.YtknfcamdfdfoeaaGreatDoorRows
import Derived.Test.YtknfcamdfdfoeaaGreatDoorZ00
import Derived.Test.YtknfcamdfdfoeaaGreatDoorZ06
set_option linter.unusedVariables false
set_option linter.unusedSimpArgs false
set_option maxRecDepth 100000
set_option maxHeartbeats 64000000
namespace Go.Proofs.YtknfcamdfdfoeaaGreatDoor
open Go.RowKit
def Zz (l:List Va) (j:Int):Int:=match l[j.toNat]? with|some v=>v.type|none=>0
def eqE (l:List Va) (ins:Int) (done:ByteArray->Option Int) (q:Qe):Int:=
 match Qi l q.name with
 | none=>19
 | some j=>
  if j<ins then 19
  else if 0<(done q.name).getD 0 then 18
  else if (q.e.typ l).2≠0 then(q.e.typ l).2
  else if q.delay=1/\(q.first.typ l).1≠Zz l j then 20
  else if (q.e.typ l).1≠Zz l j then 20
  else 0
def Jah (l:List Va):Nat->List Va->Option Nat
 | _,[]=>none
 | k,v :: r=>if (Qi l v.name).getD 0≠(k:Int) then some k else Jah l (k+1) r
def Zy (l:List Va) (ins:Int):Nat->(ByteArray->Option Int)->List Qe->Option (Nat×Int)×(ByteArray->Option Int)
 | _,d,[]=>(none,d)
 | k,d,q :: r=>if eqE l ins d q≠0 then(some (k,eqE l ins d q),d) else Zy l ins (k+1) (upd d q.name ((d q.name).getD 0+1)) r
def Jam (d:ByteArray->Option Int):Nat->List Va->Option Nat
 | _,[]=>none
 | k,v :: r=>if (d v.name).getD 0=0 then some k else Jam d (k+1) r
def Jg3 (d:ByteArray->Option Int) (l:List Va) (ins:Nat):Int×Int×Int:=
 match Jam d ins (l.drop ins) with
 | some k=>(2,(k:Int),8)
 | none=>(0,0,0)
def Jkn (l:List Va) (ins:Nat) (r:Option (Nat×Int)×(ByteArray->Option Int)):Int×Int×Int:=
 match r.1 with
 | some (k,e)=>(3,(k:Int),e)
 | none=>Jg3 r.2 l ins
def Jhl (p:Pr) (r:Option Nat):Int×Int×Int:=
 match r with
 | some k=>(2,(k:Int),18)
 | none=>Jkn (Je p) p.ins.length (Zy (Je p) p.ins.length 0 (fun _=>none) p.eqs)
def J7 (p:Pr):Int×Int×Int:=
 if K5 p≠0 then(4,0,K5 p)
 else if 8<p.ins.length\/8<p.outs.length\/24<(Je p).length then(4,0,3)
 else Jhl p (Jah (Je p) 0 (Je p))
def Y1 (a b:Int):Int:=if a=b then a else 0
def Jbw (op t:Int):Int:=
 if t=0 then 0 else if 8<=op/\op<=10 then t else if op=11\/op=12 then 2 else if t≠1 then 0 else if op<=7 then 1 else 2
def kR (k n named:Int) (ts:List Int):Int:=
 if k=1 then 1 else if k=2 then 2 else if k=3 then named
 else if k=4 then(if n=1/\ts.getD 0 0=1\/n=2/\ts.getD 0 0=2 then ts.getD 0 0 else 0)
 else if k=5 then Jbw n (Y1 (ts.getD 0 0) (ts.getD 1 0))
 else if k=6 then(if ts.getD 0 0=2 then Y1 (ts.getD 1 0) (ts.getD 2 0) else 0)
 else if k=7 then Y1 (ts.getD 0 0) (ts.getD 1 0)
 else if k=8\/k=9 then(if named=2 then ts.getD 0 0 else 0)
 else if k=10 then(if named=2 then Y1 (ts.getD 0 0) (ts.getD 1 0) else 0)
 else 0
def Zk (k:Int):Int×Int:=if k=1\/k=2 then(k,0) else(0,20)
theorem Jmc {ts:List Int} (h:∀t∈ts,t=1\/t=2) {i:Nat} (hi:i<ts.length):ts.getD i 0=1\/ts.getD i 0=2:=by
 have:ts.getD i 0=ts[i]:=by simp [List.getD,List.getElem?_eq_getElem hi]
 rw [this];exact h _ (List.getElem_mem hi)
theorem Jzc (k n named:Int) (ts:List Int) (aU:∀t∈ts,t=1\/t=2) (hk:1<=k/\k<=10)
  (h4:k=4->(n=1\/n=2)/\1<=ts.length) (h5:k=5->1<=n/\n<=16/\2<=ts.length) (h6:k=6->3<=ts.length) (h7:k=7->2<=ts.length) (h8:k=8\/k=9->1<=ts.length) (bM:k=10->2<=ts.length) :
  Jbl (Je3 k n named ts).1 (Je3 k n named ts).2=Zk (kR k n named ts):=by
 have g0:=fun h=>Jmc aU (i:=0) h;have g1:=fun h=>Jmc aU (i:=1) h;have g2:=fun h=>Jmc aU (i:=2) h;have mI:k=1\/k=2\/k=3\/k=4\/k=5\/k=6\/k=7\/k=8\/k=9\/k=10:=Ua;unfold Je3 kR
 rcases mI with rfl|rfl|rfl|rfl|rfl|rfl|rfl|rfl|rfl|rfl
 ·simp [Jbl,Zk]
 ·simp [Jbl,Zk]
 ·simp [Jbl,Zk]
 ·obtain⟨hn,hl⟩:=h4 rfl
  rcases hn with rfl|rfl <;> rcases g0 Ua with ha|ha <;> simp [Jbl,Zk,List.getD,ha] <;> simp_all
 ·obtain⟨eR,eu,hl⟩:=h5 rfl;have hn:n=1\/n=2\/n=3\/n=4\/n=5\/n=6\/n=7\/n=8\/n=9\/n=10\/n=11\/n=12\/n=13\/n=14\/n=15\/n=16:=Ua;have b0:=g0 Ua;have b1:=g1 Ua;simp only [List.getD] at *
  rcases hn with rfl|rfl|rfl|rfl|rfl|rfl|rfl|rfl|rfl|rfl|rfl|rfl|rfl|rfl|rfl|rfl <;> rcases b0 with b0|b0 <;> rcases b1 with b1|b1 <;> simp [Jbl,Zk,Jcg,Jbw,Y1,b0,b1]
 ·have hl:=h6 rfl;have b0:=g0 Ua;have b1:=g1 Ua;have b2:=g2 Ua;simp only [List.getD] at *
  rcases b0 with b0|b0 <;> rcases b1 with b1|b1 <;> rcases b2 with b2|b2 <;> simp [Jbl,Zk,Y1,b0,b1,b2]
 ·have hl:=h7 rfl;have b0:=g0 Ua;have b1:=g1 Ua;simp only [List.getD] at *
  rcases b0 with b0|b0 <;> rcases b1 with b1|b1 <;> simp [Jbl,Zk,Y1,b0,b1]
 ·have hl:=h8 (.inl rfl);exact Uck
 ·have hl:=h8 (.inr rfl);exact Uck
 ·have hl:=bM rfl;have b0:=g0 Ua;have b1:=g1 Ua;simp only [List.getD] at *
  by_cases hn:named=2 <;> rcases b0 with b0|b0 <;> rcases b1 with b1|b1 <;> simp [Jbl,Zk,Y1,b0,b1,hn]
def ofF (e:Ex) (l:List Va):Int×Int:=if e.right≠0 then(0,e.right) else e.typ l
def Y3 (l:List Qe) (s:ByteArray):Bool:=l.any fun x=>x.name.toList == s.toList
theorem Jqg (l:List Qe) (q:Qe) (s:ByteArray):Y3 (l ++ [q]) s=(Y3 l s || q.name.toList == s.toList):=by
 unfold Y3;rw [List.any_append];simp
def Jfa (d:ByteArray->Option Int) (l:List Qe):Prop:=∀s,(Y3 l s=true->0<(d s).getD 0)/\(Y3 l s=false->(d s).getD 0=0)
theorem Jtg:Jfa (fun _=>none) []:=fun s=>⟨fun h=>by simp [Y3] at h,fun _=>rfl⟩
theorem Jqq {d:ByteArray->Option Int} {l:List Qe} (h:Jfa d l) (q:Qe):Jfa (upd d q.name ((d q.name).getD 0+1)) (l ++ [q]):=by
 intro s;rw [Jqg];have h1:=h s;have h2:=h q.name
 have h0:0<=(d q.name).getD 0:=by
  cases hs:Y3 l q.name
  ·rw [h2.2 hs];omega
  ·have:=h2.1 hs;omega
 unfold upd
 by_cases hs:s.data=q.name.data
 ·rw [if_pos hs];have he:q.name=s:=by ext1;exact hs.symm
  have:(q.name.toList == s.toList)=true:=by rw [he];simp
  rw [this];refine⟨fun _=>by simp only [Option.getD_some];omega,fun h=>Lt⟩
 ·rw [if_neg hs]
  have:(q.name.toList == s.toList)=false:=by
   cases hb:(q.name.toList == s.toList)
   ·exact Gd
   ·rw [Zf] at hb;exact absurd (by rw [hb]) hs
  rw [this,Bool.or_false];exact h1
def Je6 (l:List Va) (ins:Int) (prev:List Qe) (q:Qe):Int:=
 if Jp l q.name<ins then 19
 else if Y3 prev q.name=true then 18
 else if (q.e.typ l).2≠0 then(q.e.typ l).2
 else if (q.e.typ l).1≠Zz l (Jp l q.name) then 20
 else if q.delay=1/\(q.first.typ l).1≠Zz l (Jp l q.name) then 20
 else 0
theorem Jwe {l:List Va} {ins:Int} (hi:0<=ins) {prev:List Qe} {d:ByteArray->Option Int} (hd:Jfa d prev) (q:Qe):Je6 l ins prev q=eqE l ins d q:=by
 unfold Je6 eqE Jp
 cases hf:Qi l q.name with
 | none=>simp only [Option.getD_none];rw [if_pos Ua]
 | some j=>
  simp only [Option.getD_some]
  by_cases h1:j<ins
  ·rw [if_pos h1,if_pos h1]
  rw [if_neg h1,if_neg h1];have h2:=hd q.name
  cases hs:Y3 prev q.name
  ·rw [if_neg (show ¬(false=true) by simp),if_neg (show ¬0<(d q.name).getD 0 by have:=h2.2 hs;omega)]
   by_cases h3:(q.e.typ l).2≠0
   ·rw [if_pos h3,if_pos h3]
   rw [if_neg h3,if_neg h3]
   by_cases h4:(q.e.typ l).1≠Zz l j
   ·rw [if_pos h4]
    by_cases h5:q.delay=1/\(q.first.typ l).1≠Zz l j
    ·rw [if_pos h5]
    ·rw [if_neg h5,if_pos h4]
   ·rw [if_neg h4]
    by_cases h5:q.delay=1/\(q.first.typ l).1≠Zz l j
    ·rw [if_pos h5,if_pos h5]
    ·rw [if_neg h5,if_neg h5,if_neg h4]
  ·rw [if_pos rfl,if_pos (h2.1 hs)]
theorem Jpx:∀(l:List Va) (k:Nat) (v:Va) (i:Int),l[k]?=some v->∃j,Xf l v.name i=some j/\i<=j/\j<=i+k
 | [],k,v,i,h=>Lt
 | x :: l,0,v,i,h=>by
  simp at h;subst h;exact⟨i,by rw [Xf,if_pos rfl],Ua,Ua⟩
 | x :: l,k+1,v,i,h=>by
  rw [Xf]
  by_cases hs:v.name.data=x.name.data
  ·rw [if_pos hs];exact⟨i,rfl,Ua,Ua⟩
  ·rw [if_neg hs];obtain⟨j,h1,h2,h3⟩:=Jpx l k v (i+1) Ve;exact⟨j,h1,Ua,Ua⟩
theorem Jek {l:List Va} {k:Nat} {v:Va} (h:l[k]?=some v):0<=Jp l v.name/\Jp l v.name<=k/\Jp l v.name=(Qi l v.name).getD 0:=by
 obtain⟨j,h1,h2,h3⟩:=Jpx l k v 0 h;unfold Jp Qi;rw [h1];exact⟨h2,by show j<=(k:Int);omega,rfl⟩
end Go.Proofs.YtknfcamdfdfoeaaGreatDoor
namespace Go.Proofs.YtknfcamdfdfoeaaGreatDoor
open Go.RowKit Go.Sort
theorem Jiz (a b:Int) (w:World) :
  Calls Tryz.prog 153 #[.int .i32 a,.int .i64 b] w fun e w'=>e = .returned (.tuple #[.int .i64 (Jcg a b).1,.bool (Jcg a b).2])/\w=w':=by
 go_enter Tryz.func153,Tryz.ntmps153
 go_wp2_with fail
 all_goals (go_ret2;exact⟨by simp_all [Jcg],rfl⟩)
def Jfs (l:List Va) (k:Nat):ByteArray->Option Int:=fun s=>Xf (l.drop k) s k
theorem Jse {l:List Va} {k:Nat} {v:Va} (h:l[k]?=some v):upd (Jfs l (k+1)) v.name k=Jfs l k:=by
 funext s
 unfold upd Jfs;have am:k<l.length:=(List.getElem?_eq_some_iff.1 h).1
 have hd:l.drop k=v :: l.drop (k+1):=by
  rw [List.drop_eq_getElem_cons am];have:l[k]=v:=(List.getElem?_eq_some_iff.1 h).2;rw [this]
 rw [hd,Xf];exact Gd
theorem Jvv (n:Int) (w:World):(Instr.makeMap 115 (some (.int .i64 n))).run Tryz.prog w = .ok (.map (some w.heap.size)) (w.alloc (.map #[] 0)):=by
 have hu:Tryz.prog.underlying 115=some (.map 9 3):=Tryz.underlying115;simp only [Instr.makeMap,Sem.run_bind,run_underlying hu,Result.andThen];exact Gd
theorem Jnu {w a b:World} {g:Nat} (h:Below w.heap.size w a) (hg:a.grownBy b (some g)) (hw:w.heap.size<=g):Below w.heap.size w b:=
 h.grown hg h.size (fun k hk=>by injection hk with hk;omega)
theorem Jtr (l:List Va) (A:Option Addr) (cap:Nat) (hs:∀v∈l,v.name.size<=maxLen) (hn:l.length<=1000000) (w:World) (hl:Ju w l A cap) :
  Calls Tryz.prog 111 #[.slice A l.length cap] w fun r w'=>(∃B,r = .returned (.map (some B))/\w.heap.size<=B/\Jz Tryz.prog 9 3 w' B l.length (Qi l))/\Below w.heap.size w w':=by
 have aD:=hl.len;unfold maxLen at aD;obtain⟨fD,cG⟩:=aD;have jH:=Jvv (l.length:Int);have cP:Jfs l l.length=fun _=>none:=by funext s;simp [Jfs,Xf]
 have cJ:=Lib.hid cP;clear cP
 go_enter Tryz.func111,Tryz.ntmps111
 go_wp2_with fail
 go_loopw [4] (fun i wr=>∃k:Nat,k<=l.length/\i = .int .i64 ((k:Int)-1)/\Jz Tryz.prog 9 3 wr w.heap.size (l.length-k) (Jfs l k)/\Below w.heap.size w wr) (fun i _=>(intOf i+1).toNat)
 case atStart=>exact⟨l.length,Nat.le_refl _,rfl,by rw [cJ.out,Nat.sub_self];exact Jz.made w,Jb⟩
 case round=>
  obtain⟨k,hk,rfl,hm,ab⟩:=hrel
  by_cases am:0<k
  ·obtain⟨j,rfl⟩:∃j,k=j+1:=⟨k-1,Ua⟩;have mX:j<l.length:=Ua;have hx:l[j]?=some l[j]:=List.getElem?_eq_getElem mX;generalize l[j]=x at hx;obtain⟨b,off,rfl,aH,⟨d0,d1,d2,d3⟩⟩:=(hl.later ab).get hx;have cE:=hs x (List.mem_of_getElem? hx);have sP:=Jse hx;have zj:=Lib.hid sP;clear sP hx;have wP:((j+1:Nat):Int)-1=j:=Ua;rw [wP];have nn:(0:Int)<=j:=Ua
   go_wp2_with (at_mapUpdate;refine Jau rfl (.tmp 15) (.tmp 20) (.tmp 21) 115 rfl Tryz.underlying9 Tryz.underlying115 Tryz.underlying3 w.heap.size _ _ x.name j rfl hm Ua rfl rfl cE Ua ?_;intro w2 cI aG)
   rw [zj.out] at cI
   go_wp2_with fail
   go_roundw
   case rel=>exact⟨j,Ua,Tb,by rw [show l.length-j=l.length-(j+1)+1 from by omega];exact cI,Jnu ab aG (Nat.le_refl _)⟩
   case measure=>first|(simp [intOf];done)|(simp [intOf];omega)
  ·obtain rfl:k=0:=Ua;have hf:Jfs l 0=Qi l:=by funext s;simp [Jfs,Qi]
   rw [hf,Nat.sub_zero] at hm
   go_wp2_with fail
   go_ret;exact⟨⟨w.heap.size,rfl,Nat.le_refl _,hm⟩,ab⟩
theorem Jve {α:Type} (l:List α) (k:Nat) (x:α) (h:l[k]?=some x):l.take (k+1)=l.take k ++ [x]:=by
 rw [List.take_add_one,h];rfl
theorem Jsp {e:Ex} (hf:e.formed=true) (hz:e.size<=100000) (f:Bool):∀t∈Ex.showL f e.sub,t.size<=4000000:=by
 intro t ht;rw [Ex.showL_map] at ht;obtain⟨x,hx,rfl⟩:=List.mem_map.1 ht;have h1:=Ex.showB_size x (Ex.formed_sub hf hx);obtain⟨k,hk⟩:=List.mem_iff_getElem?.1 hx;have h2:=Ex.size_sub hk;have h3:=Jkk x.kind x.showB
 split
 ·exact Ua
 ·unfold Ex.partB;omega
theorem Jcd {α:Type} {l:List α} (h:l.length=1):∃a,l = [a]:=by
 match l,h with
 | [a],_=>exact⟨a,rfl⟩
theorem Jcn {α:Type} {l:List α} (h:l.length=2):∃a b,l = [a,b]:=by
 match l,h with
 | [a,b],_=>exact⟨a,b,rfl⟩
theorem Jn6 {α:Type} {l:List α} (h:l.length=3):∃a b c,l = [a,b,c]:=by
 match l,h with
 | [a,b,c],_=>exact⟨a,b,c,rfl⟩
theorem Jbc {e:Ex} (h:e.formed=true):e.kind=1\/e.kind=2\/e.kind=3\/e.kind=4\/e.kind=5\/e.kind=6\/e.kind=7\/e.kind=8\/e.kind=9\/e.kind=10:=by
 rw [Ex.formed_eq,Bool.and_eq_true] at h;have h1:=h.1;simp only [Jl,Bool.and_eq_true] at h1;have h2:=h1.1.1.1.1.1;unfold Jw at h2
 repeat' split at h2
 all_goals first|omega|(simp at h2)
theorem Jhg (e:Ex):e.formed=true->e.size<=100000->∀(A:Option Addr) (cap:Nat) (w:World),Jt w e A cap->
  Calls Tryz.prog 131 #[exV e A cap] w fun r w'=>r = .returned (.string e.showB)/\Below w.heap.size w w':=by
 induction e using Ex.ind with
 | h e ih=>
 intro hf hz A cap w he;have hl:=he.len;unfold maxLen at hl;obtain⟨bI,aD⟩:=hl;have ai:=(Ex.formed_kind hf).1;have aL:=(Ex.formed_kind hf).2;have li:=Jsp hf hz (e.kind == 6);have aU:=Ex.showL_len (e.kind == 6) e.sub;have jP:=Ex.showB_eq e
 have fW : -2147483648<=e.n/\e.n<=2147483647\/e.kind≠1:=by
  rw [Ex.formed_eq,Bool.and_eq_true] at hf
  by_cases h1:e.kind=1
  ·left
   have hh:=hf.1;rw [h1] at hh;simp [Jl,Jw] at hh;omega
  ·exact .inr h1
 have hpart:∀x∈e.sub,∀(B:Option Addr) (c:Nat) (W:World),Jt W x B c->Calls Tryz.prog 148 #[exV x B c] W fun r w'=>r = .returned (.string x.partB)/\Below W.heap.size W w':=by
  intro x hx B c W hW;have h1:=Ex.showB_size x (Ex.formed_sub hf hx);obtain⟨k,hk⟩:=List.mem_iff_getElem?.1 hx;have h2:=Ex.size_sub hk;exact Jyv Ua hW fun W' h'=>ih x hx (Ex.formed_sub hf hx) Ua B c W' h'
 have bY:∀x∈e.sub,∀(B:Option Addr) (c:Nat) (W:World),Jt W x B c->Calls Tryz.prog 131 #[exV x B c] W fun r w'=>r = .returned (.string x.showB)/\Below W.heap.size W w':=by
  intro x hx B c W hW;obtain⟨k,hk⟩:=List.mem_iff_getElem?.1 hx;have h2:=Ex.size_sub hk;exact ih x hx (Ex.formed_sub hf hx) Ua B c W hW
 have iD:∀(k:Nat) (x:Ex),e.sub[k]?=some x->(Ex.showL (e.kind == 6) e.sub)[k]?=some (if (e.kind == 6)=true then x.showB else x.partB):=by
  intro k x hk;rw [Ex.showL_map,List.getElem?_map,hk];rfl
 clear ih
 have fD:e.sub.length<=3:=by
  unfold Jw at ai
  repeat' split at ai
  all_goals first|omega|(simp at ai;omega)
 have eO:=Lib.hid ai;clear ai;have gn:=Lib.hid aU;clear aU;have fY:=Lib.hid jP;clear jP;have mF:=Lib.hid li;clear li;have HGET:=Lib.hid iD;clear iD;generalize hT:Ex.showL (e.kind == 6) e.sub=ts at gn fY mF HGET;clear hT;have HF:=Lib.hid hf;clear hf;unfold exV
 go_enter Tryz.func131,Tryz.ntmps131
 go_wp2_with fail
 refine Jo fun W0 ag=>?_;have ax:Below w.heap.size w W0:=Uo;have bD:w.heap.size<W0.heap.size:=by rw [ag];first|omega|(simp;omega)|simp
 have k0:W0.cell? ⟨w.heap.size,0,none⟩=some (.int .i64 e.kind):=Uc;have k1:W0.cell? ⟨w.heap.size,1,none⟩=some (.int .i32 e.n):=Uc;have k2:W0.cell? ⟨w.heap.size,2,none⟩=some (.string e.name):=Uc;clear ag;replace he:=he.later ax
 go_loopw [3,9] (fun v i wr=>∃(k:Nat),k<=e.sub.length/\i = .int .i64 k/\wr.ownsRow W0.heap.size 9 1 v k ((ts.take k).map Value.string)/\Below W0.heap.size W0 wr) (fun _ i _=>e.sub.length-(intOf i).toNat)
 case atStart=>exact⟨0,Nat.zero_le _,rfl,World.ownsRow_nil _ _ _ _,Below.refl _ _⟩
 case round=>
  obtain⟨k,hk,rfl,ae,ab⟩:=hrel;have hc:=Jg ab;have bu:=ab.size;have af:w.heap.size<wr.heap.size:=Ua
  by_cases am:k<e.sub.length
  ·obtain⟨x,hx,aj,hd⟩:=Kl am;obtain⟨b,off,A',cap',rfl,c0,c1,c2,c3,hs⟩:=(he.later ab).get hx;have hg:=HGET.out k x hx;have aP:=congrArg (List.map Value.string) (Jve ts k _ hg);rw [List.map_append,List.map_cons,List.map_nil] at aP;have eZ:=Lib.hid aP;clear aP hg hd hx
   cases h6:(e.kind == 6)
   ·rw [h6,if_neg Ul] at eZ;have hp:=hpart x aj A' cap';unfold exV at hp
    go_wp2_with (first|(go_at_call 148;refine(hp _ (hs.later Jb)).mono ?_;rintro r w1 ⟨rfl,ac⟩;have ⟨ak,af⟩:=aft ac;(try simp at af))|(at_builtin;refine K2 rfl (.tmp 21) (.tmp 24) 121 rfl W0.heap.size 9 (.string ⟨#[]⟩) 1 16 Tryz.underlying121 Zq rfl Ua u3 k ((ts.take k).map Value.string) _ 1 [.string x.partB] rfl Udk rfl rfl (fun j u hj=>U9) Uv Ua Ua U7 ?_;intro v2 w2 ao aq;have br:=aq.size;(try simp at br)))
    exact Ucw
   ·rw [h6,if_pos rfl] at eZ;have hp:=bY x aj A' cap';unfold exV at hp
    go_wp2_with (first|(go_at_call 131;refine(hp _ (hs.later Jb)).mono ?_;rintro r w1 ⟨rfl,ac⟩;have ⟨ak,af⟩:=aft ac;(try simp at af))|(at_builtin;refine K2 rfl (.tmp 16) (.tmp 19) 121 rfl W0.heap.size 9 (.string ⟨#[]⟩) 1 16 Tryz.underlying121 Zq rfl Ua u3 k ((ts.take k).map Value.string) _ 1 [.string x.showB] rfl Udk rfl rfl (fun j u hj=>U9) Uv Ua Ua U7 ?_;intro v2 w2 ao aq;have br:=aq.size;(try simp at br)))
    exact Ucw
  ·obtain rfl:k=e.sub.length:=Ua;rw [<-gn.out,List.take_length] at ae;have xH:=Jhr e.n
   rcases Jbc HF.out with hk|hk|hk|hk|hk|hk|hk|hk|hk|hk
   ·have ai:=eO.out;rw [hk] at ai;have eb:ts.length=0:=Mp;obtain rfl:=List.length_eq_zero_iff.1 eb;clear eb ai;have hi : -2147483648<=e.n/\e.n<=2147483647:=Ua;have hv:e.showB=Zn e.n:=by rw [fY.out,hk];rfl
    have q1:(e.kind == 1)=true:=Ud;have q2:(e.kind == 2)=false:=Ud;have q4:(e.kind == 4)=false:=Ud;have q5:(e.kind == 5)=false:=Ud;have q6:(e.kind == 6)=false:=Ud;have q7:(e.kind == 7)=false:=Ud;have q8:(e.kind == 8)=false:=Ud;have q9:(e.kind == 9)=false:=Ud;have q10:(e.kind == 10)=false:=Ud;clear hk fW;have wN:=fun W=>Jtb e.n W hi.1 hi.2;have HV:=Lib.hid hv;clear hv
    go_wp2_with (first|(go_at_call 149;refine(wN _).mono ?_;rintro r w1 ⟨rfl,ac⟩;have ⟨ak,af⟩:=aft ac;(try simp at af)))
    exact Uef
   ·have ai:=eO.out;rw [hk] at ai;have eb:ts.length=0:=Mp;obtain rfl:=List.length_eq_zero_iff.1 eb;clear eb ai;have q1:(e.kind == 1)=false:=Ud;have q2:(e.kind == 2)=true:=Ud;have q4:(e.kind == 4)=false:=Ud;have q5:(e.kind == 5)=false:=Ud;have q6:(e.kind == 6)=false:=Ud;have q7:(e.kind == 7)=false:=Ud;have q8:(e.kind == 8)=false:=Ud;have q9:(e.kind == 9)=false:=Ud;have q10:(e.kind == 10)=false:=Ud
    cases hn:(e.n == 0)
    ·have hv:e.showB=⟨#[116,114,117,101]⟩:=Fv;exact Uc1
    ·have hv:e.showB=⟨#[102,97,108,115,101]⟩:=Fv;exact Uc1
   ·have ai:=eO.out;rw [hk] at ai;have eb:ts.length=0:=Mp;obtain rfl:=List.length_eq_zero_iff.1 eb;clear eb ai;have q1:(e.kind == 1)=false:=Ud;have q2:(e.kind == 2)=false:=Ud;have q4:(e.kind == 4)=false:=Ud;have q5:(e.kind == 5)=false:=Ud;have q6:(e.kind == 6)=false:=Ud;have q7:(e.kind == 7)=false:=Ud;have q8:(e.kind == 8)=false:=Ud;have q9:(e.kind == 9)=false:=Ud;have q10:(e.kind == 10)=false:=Ud;have hv:e.showB=e.name:=by rw [fY.out,hk];rfl
    exact Uc1
   ·have ai:=eO.out;rw [hk] at ai;have eb:ts.length=1:=Lp;obtain⟨t0,rfl⟩:=Jcd eb;clear eb ai;replace ae:wr.ownsRow W0.heap.size 9 1 u3 1 [.string t0]:=ae;obtain⟨g,gcap,rfl,eN,aG,bJ,cg,ah⟩:=Kc ae Ua;unfold maxLen at cg;have e0:=ah 0 _ rfl;have s0:=mF.out t0 Ul;clear ah ae;have q1:(e.kind == 1)=false:=Ud;have q2:(e.kind == 2)=false:=Ud;have q4:(e.kind == 4)=true:=Ud;have q5:(e.kind == 5)=false:=Ud;have q6:(e.kind == 6)=false:=Ud;have q7:(e.kind == 7)=false:=Ud;have q8:(e.kind == 8)=false:=Ud;have q9:(e.kind == 9)=false:=Ud;have q10:(e.kind == 10)=false:=Ud
    cases hn:(e.n == 2)
    ·have hv:e.showB=⟨#[45]⟩ ++ t0:=Fv;exact Uc1
    ·have hv:e.showB=⟨#[110,111,116,32]⟩ ++ t0:=Fv;exact Uc1
   ·have ai:=eO.out;rw [hk] at ai;have eb:ts.length=2:=Lp;obtain⟨t0,t1,rfl⟩:=Jcn eb;clear eb ai;replace ae:wr.ownsRow W0.heap.size 9 1 u3 2 [.string t0,.string t1]:=ae;obtain⟨g,gcap,rfl,eN,aG,bJ,cg,ah⟩:=Kc ae Ua;unfold maxLen at cg;have e0:=ah 0 _ rfl;have s0:=mF.out t0 Ul;have e1:=ah 1 _ rfl;have s1:=mF.out t1 Ul;clear ah ae;have q1:(e.kind == 1)=false:=Ud;have q2:(e.kind == 2)=false:=Ud;have q4:(e.kind == 4)=false:=Ud;have q5:(e.kind == 5)=true:=Ud;have q6:(e.kind == 6)=false:=Ud;have q7:(e.kind == 7)=false:=Ud;have q8:(e.kind == 8)=false:=Ud;have q9:(e.kind == 9)=false:=Ud;have q10:(e.kind == 10)=false:=Ud;have z2:¬9223372036854775807<t0.size+1:=Ua;have z3:¬9223372036854775807<t0.size+1+(Ja6 e.n).size:=Ua;have z4:¬9223372036854775807<t0.size+1+(Ja6 e.n).size+1:=Ua;have z5:¬9223372036854775807<t0.size+1+(Ja6 e.n).size+1+t1.size:=Ua;have hv:e.showB=t0 ++ ⟨#[32]⟩ ++ Ja6 e.n ++ ⟨#[32]⟩ ++ t1:=F9;clear hk fW;have HV:=Lib.hid hv;clear hv
    go_wp2_with fail
    refine Jx Ug Ug (fun bj=>?_)
    repeat (quiet_step ((go_at_call 150;exact Calls.regrown_of ((Jv4 _ _).mono fun _ _ h=>⟨h.1,F5⟩))))
    refine wpQuiet_nil ?_;intro wq au;replace au:=qbo au;obtain⟨au,dA,bh⟩:=au;clear bj
    (try simp at bh)
    go_wp2_with fail
    exact Uef
   ·have ai:=eO.out;rw [hk] at ai;have eb:ts.length=3:=Lp;obtain⟨t0,t1,t2,rfl⟩:=Jn6 eb;clear eb ai;replace ae:wr.ownsRow W0.heap.size 9 1 u3 3 [.string t0,.string t1,.string t2]:=ae;obtain⟨g,gcap,rfl,eN,aG,bJ,cg,ah⟩:=Kc ae Ua;unfold maxLen at cg;have e0:=ah 0 _ rfl;have s0:=mF.out t0 Ul;have e1:=ah 1 _ rfl;have s1:=mF.out t1 Ul;have e2:=ah 2 _ rfl;have s2:=mF.out t2 Ul;clear ah ae;have q1:(e.kind == 1)=false:=Ud;have q2:(e.kind == 2)=false:=Ud;have q4:(e.kind == 4)=false:=Ud;have q5:(e.kind == 5)=false:=Ud;have q6:(e.kind == 6)=true:=Ud;have q7:(e.kind == 7)=false:=Ud;have q8:(e.kind == 8)=false:=Ud;have q9:(e.kind == 9)=false:=Ud;have q10:(e.kind == 10)=false:=Ud;have z2:¬9223372036854775807<3+t0.size:=Ua;have z3:¬9223372036854775807<3+t0.size+6:=Ua;have z4:¬9223372036854775807<3+t0.size+6+t1.size:=Ua;have z5:¬9223372036854775807<3+t0.size+6+t1.size+6:=Ua;have z6:¬9223372036854775807<3+t0.size+6+t1.size+6+t2.size:=Ua;have hv:e.showB=⟨#[105,102,32]⟩ ++ t0 ++ ⟨#[32,116,104,101,110,32]⟩ ++ t1 ++ ⟨#[32,101,108,115,101,32]⟩ ++ t2:=F9;exact Ua1
   ·have ai:=eO.out;rw [hk] at ai;have eb:ts.length=2:=Lp;obtain⟨t0,t1,rfl⟩:=Jcn eb;clear eb ai;replace ae:wr.ownsRow W0.heap.size 9 1 u3 2 [.string t0,.string t1]:=ae;obtain⟨g,gcap,rfl,eN,aG,bJ,cg,ah⟩:=Kc ae Ua;unfold maxLen at cg;have e0:=ah 0 _ rfl;have s0:=mF.out t0 Ul;have e1:=ah 1 _ rfl;have s1:=mF.out t1 Ul;clear ah ae;have q1:(e.kind == 1)=false:=Ud;have q2:(e.kind == 2)=false:=Ud;have q4:(e.kind == 4)=false:=Ud;have q5:(e.kind == 5)=false:=Ud;have q6:(e.kind == 6)=false:=Ud;have q7:(e.kind == 7)=true:=Ud;have q8:(e.kind == 8)=false:=Ud;have q9:(e.kind == 9)=false:=Ud;have q10:(e.kind == 10)=false:=Ud;have z2:¬9223372036854775807<t0.size+4:=Ua;have z3:¬9223372036854775807<t0.size+4+t1.size:=Ua;have hv:e.showB=t0 ++ ⟨#[32,45,62,32]⟩ ++ t1:=F9;exact Ua1
   ·have ai:=eO.out;rw [hk] at ai;have eb:ts.length=1:=Lp;obtain⟨t0,rfl⟩:=Jcd eb;clear eb ai;replace ae:wr.ownsRow W0.heap.size 9 1 u3 1 [.string t0]:=ae;obtain⟨g,gcap,rfl,eN,aG,bJ,cg,ah⟩:=Kc ae Ua;unfold maxLen at cg;have e0:=ah 0 _ rfl;have s0:=mF.out t0 Ul;clear ah ae;have q1:(e.kind == 1)=false:=Ud;have q2:(e.kind == 2)=false:=Ud;have q4:(e.kind == 4)=false:=Ud;have q5:(e.kind == 5)=false:=Ud;have q6:(e.kind == 6)=false:=Ud;have q7:(e.kind == 7)=false:=Ud;have q8:(e.kind == 8)=true:=Ud;have q9:(e.kind == 9)=false:=Ud;have q10:(e.kind == 10)=false:=Ud;have z2:¬9223372036854775807<t0.size+6:=Ua;have z3:¬9223372036854775807<t0.size+6+e.name.size:=Ua;have hv:e.showB=t0 ++ ⟨#[32,119,104,101,110,32]⟩ ++ e.name:=F9;exact Ua1
   ·have ai:=eO.out;rw [hk] at ai;have eb:ts.length=1:=Lp;obtain⟨t0,rfl⟩:=Jcd eb;clear eb ai;replace ae:wr.ownsRow W0.heap.size 9 1 u3 1 [.string t0]:=ae;obtain⟨g,gcap,rfl,eN,aG,bJ,cg,ah⟩:=Kc ae Ua;unfold maxLen at cg;have e0:=ah 0 _ rfl;have s0:=mF.out t0 Ul;clear ah ae;have q1:(e.kind == 1)=false:=Ud;have q2:(e.kind == 2)=false:=Ud;have q4:(e.kind == 4)=false:=Ud;have q5:(e.kind == 5)=false:=Ud;have q6:(e.kind == 6)=false:=Ud;have q7:(e.kind == 7)=false:=Ud;have q8:(e.kind == 8)=false:=Ud;have q9:(e.kind == 9)=true:=Ud;have q10:(e.kind == 10)=false:=Ud;have z2:¬9223372036854775807<t0.size+8:=Ua;have z3:¬9223372036854775807<t0.size+8+e.name.size:=Ua;have hv:e.showB=t0 ++ ⟨#[32,117,110,108,101,115,115,32]⟩ ++ e.name:=F9;exact Ua1
   ·have ai:=eO.out;rw [hk] at ai;have eb:ts.length=2:=Lp;obtain⟨t0,t1,rfl⟩:=Jcn eb;clear eb ai;replace ae:wr.ownsRow W0.heap.size 9 1 u3 2 [.string t0,.string t1]:=ae;obtain⟨g,gcap,rfl,eN,aG,bJ,cg,ah⟩:=Kc ae Ua;unfold maxLen at cg;have e0:=ah 0 _ rfl;have s0:=mF.out t0 Ul;have e1:=ah 1 _ rfl;have s1:=mF.out t1 Ul;clear ah ae;have q1:(e.kind == 1)=false:=Ud;have q2:(e.kind == 2)=false:=Ud;have q4:(e.kind == 4)=false:=Ud;have q5:(e.kind == 5)=false:=Ud;have q6:(e.kind == 6)=false:=Ud;have q7:(e.kind == 7)=false:=Ud;have q8:(e.kind == 8)=false:=Ud;have q9:(e.kind == 9)=false:=Ud;have q10:(e.kind == 10)=true:=Ud;have z2:¬9223372036854775807<6+e.name.size:=Ua;have z3:¬9223372036854775807<6+e.name.size+1:=Ua;have z4:¬9223372036854775807<6+e.name.size+1+t0.size:=Ua;have z5:¬9223372036854775807<6+e.name.size+1+t0.size+1:=Ua;have z6:¬9223372036854775807<6+e.name.size+1+t0.size+1+t1.size:=Ua;have hv:e.showB=⟨#[109,101,114,103,101,32]⟩ ++ e.name ++ ⟨#[32]⟩ ++ t0 ++ ⟨#[32]⟩ ++ t1:=F9;exact Ua1
end Go.Proofs.YtknfcamdfdfoeaaGreatDoor
