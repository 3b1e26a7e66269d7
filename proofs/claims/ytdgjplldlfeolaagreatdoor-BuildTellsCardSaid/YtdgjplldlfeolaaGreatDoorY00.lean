/- Lemmas. -/
import Derived.Test.YtdgjplldlfeolaaGreatDoorMac
import Derived.WalkKit
import Derived.WalkSpells
import Derived.WalkLawsBesides
import Derived.Deep.QuietTactic
import Derived.BigQuiet
import Derived.Deep.Draws
import Derived.Lib.Hide
import Derived.Deep.LoopGhost
import Derived.StillTailTactics
import Derived.Deep.RegionHeld3
import Derived.Deep.RegionWith
import Derived.Lib.QuietBelow
import Derived.Test.YtdgjplldlfeolaaGreatDoorRows
import Derived.Laws.RangeAny
import Derived.WideShapes
import Derived.Maps.Own
import Derived.Maps.OwnOps
import Derived.Maps.OwnSet
import Derived.Maps.Views
import Derived.StringKeys
import Derived.WalkArith
import Derived.Laws.OwnMore
import Derived.Deep.RegionLaw
import Derived.Laws.StructEq
import Derived.RegionTactic
import Derived.BigRegion
set_option linter.unusedVariables false
set_option linter.unusedSimpArgs false
set_option maxRecDepth 100000
set_option maxHeartbeats 64000000
namespace Go.Proofs.YtdgjplldlfeolaaGreatDoor
open Go.RowKit
inductive Ex where
 | mk (kind n:Int) (name:ByteArray) (sub:List Ex)
structure Va where
 name:ByteArray
 type:Int
 ck:Int
 cn:ByteArray
structure Qe where
 name:ByteArray
 delay:Int
 first:Ex
 e:Ex
structure Pr where
 name:ByteArray
 ins:List Va
 outs:List Va
 locals:List Va
 eqs:List Qe
def I64 (x:Int):Prop:=-9223372036854775808<=x/\x<=9223372036854775807
def I32 (x:Int):Prop:=-2147483648<=x/\x<=2147483647
namespace Ex
def kind:Ex->Int|mk k _ _ _=>k
def n:Ex->Int|mk _ n _ _=>n
def name:Ex->ByteArray|mk _ _ s _=>s
def sub:Ex->List Ex|mk _ _ _ l=>l
def zero:Ex:=mk 0 0 ⟨#[]⟩ []
mutual
def size:Ex->Nat
 | mk _ _ _ l=>sizeL l+1
def sizeL:List Ex->Nat
 | []=>0
 | x :: l=>size x+sizeL l
end
theorem size_eq (e:Ex):e.size=sizeL e.sub+1:=by cases e;simp [size,sub]
theorem size_mem:∀(l:List Ex) (k:Nat) (x:Ex),l[k]?=some x->x.size<=sizeL l
 | [],k,x,h=>Lc
 | y :: l,0,x,h=>by simp at h;subst h;simp [sizeL]
 | y :: l,k+1,x,h=>by
  have:=size_mem l k x Vl;simp [sizeL];omega
theorem size_sub {e x:Ex} {k:Nat} (h:e.sub[k]?=some x):x.size<e.size:=by
 have:=size_mem _ _ _ h;rw [size_eq e];omega
theorem ind {p:Ex->Prop} (h:∀e,(∀x∈e.sub,p x)->p e) (e:Ex):p e:=by
 have:∀n (e:Ex),e.size<=n->p e:=by
  intro n
  induction n with
  | zero=>intro e he;rw [size_eq] at he;omega
  | succ n ih=>
   intro e he;refine h e fun x hx=>ih x ?_;obtain⟨k,hk⟩:=List.mem_iff_getElem?.1 hx;have:=size_sub hk;omega
 exact this _ e (Ns _)
mutual
def OK:Ex->Prop
 | mk k n s l=>I64 k/\I32 n/\s.size<=maxLen/\OKL l
def OKL:List Ex->Prop
 | []=>True
 | x :: l=>OK x/\OKL l
end
theorem OKL_mem:∀ {l:List Ex},OKL l->∀x∈l,OK x
 | [],_,x,hx=>by cases hx
 | y :: l,h,x,hx=>by
  simp only [OKL] at h
  rcases List.mem_cons.1 hx with rfl|hx
  ·exact h.1
  ·exact OKL_mem h.2 x hx
theorem OK_sub {e x:Ex} (h:OK e) (hx:x∈e.sub):OK x:=by
 cases e;simp only [OK,sub] at *;exact OKL_mem h.2.2.2 x hx
mutual
def count:Ex->Int->Int
 | mk _ _ _ l,most=>countL l 1 most
def countL:List Ex->Int->Int->Int
 | [],n,_=>n
 | x :: l,n,most=>if n>=most then n else countL l (n+count x (most-n)) most
end
theorem count_eq (e:Ex) (most:Int):e.count most=countL e.sub 1 most:=by cases e;simp [count,sub]
theorem Jh1:∀(l:List Ex),(∀x∈l,∀m,1<=count x m/\count x m<=max 1 m)->∀n m,1<=n->n<=max 1 m->n<=countL l n m/\countL l n m<=max 1 m
 | [],_,n,m,h1,h2=>by simp [countL];omega
 | x :: l,hx,n,m,h1,h2=>by
  simp only [countL]
  split
  ·exact⟨Ua,Ua⟩
  ·have:=hx x Uh (m-n);have:=Jh1 l (fun y hy=>hx y Mx) (n+count x (m-n)) m Ua Ua;exact⟨Ua,Ua⟩
theorem count_bd (e:Ex):∀m,1<=count e m/\count e m<=max 1 m:=by
 induction e using ind with
 | h e ih=>
  intro m;rw [count_eq];have:=Jh1 e.sub ih 1 m Ua Ua;exact⟨Ua,Ua⟩
theorem Jjc:∀(l:List Ex),(∀x∈l,∀m,count x m<m->count x m=x.size)->∀n m,1<=n->countL l n m<m->countL l n m=n+sizeL l
 | [],_,n,m,_,h=>by simp [countL,sizeL]
 | x :: l,hx,n,m,h1,h=>by
  simp only [countL,sizeL] at h ⊢
  split at h
  ·exact Ua
  ·rename_i qK;rw [if_neg qK];have hb:=count_bd x (m-n);have hl:=Jh1 l (fun y _=>count_bd y) (n+count x (m-n)) m Ua Ua;have:=hx x Uh (m-n) Ua;have:=Jjc l (fun y hy=>hx y Mx) (n+count x (m-n)) m Ua h;exact Ua
theorem count_size (e:Ex):∀m,count e m<m->count e m=e.size:=by
 induction e using ind with
 | h e ih=>
  intro m h;rw [count_eq] at h ⊢;rw [Jjc e.sub ih 1 m Ua h,size_eq];omega
mutual
def depth:Ex->Int
 | mk _ _ _ l=>depthL l 0+1
def depthL:List Ex->Int->Int
 | [],n=>n
 | x :: l,n=>depthL l (max n (depth x))
end
theorem depth_eq (e:Ex):e.depth=depthL e.sub 0+1:=by cases e;simp [depth,sub]
theorem Jnm:∀(l:List Ex),(∀x∈l,1<=depth x/\depth x<=x.size)->∀n,n<=depthL l n/\depthL l n<=max n (sizeL l)
 | [],_,n=>by simp [depthL];omega
 | x :: l,hx,n=>by
  have:=hx x Uh;have:=Jnm l (fun y hy=>hx y Mx) (max n (depth x));simp only [depthL,sizeL];exact Ua
theorem depth_bd (e:Ex):1<=depth e/\depth e<=e.size:=by
 induction e using ind with
 | h e ih=>
  rw [depth_eq,size_eq];have:=Jnm e.sub ih 0;omega
end Ex
end Go.Proofs.YtdgjplldlfeolaaGreatDoor
namespace Go.Proofs.YtdgjplldlfeolaaGreatDoor
open Go.RowKit Go.Sort
theorem Jd {w a b:World} (h:Below w.heap.size w a) (k:Below a.heap.size a b):Below w.heap.size w b:=h.trans (k.mono h.size)
theorem Jh {w a:World} (h:Below w.heap.size w a):Below w.heap.size w a.drew:=h.drew
theorem J8 {w a:World} (h:Below w.heap.size w a) (n:Nat):Below w.heap.size w (a.drewN n):=⟨h.os,h.tape,h.output,h.size,h.block⟩
theorem Jc {w a:World} (h:Below w.heap.size w a) (o:Obj):Below w.heap.size w (a.alloc o):=h.alloc h.size o
theorem Jb {n:Nat} {a b:World} (h:Below n a b:=by repeat (first|exact Nt|(with_reducible assumption)|refine Jd ?_ Um|refine Jd ?_ (below_regrown _ _ _)|refine Jh ?_|refine J8 ?_ _|refine Jc ?_ _|refine Jn ?_ Um Ua)):Below n a b:=h
theorem Km {n:Nat} {a b:World} (h:Below n a b:=by repeat (first|exact Nt|(with_reducible assumption)|refine Jd ?_ Um|refine Below.setCell ?_ Uh _|refine Jc ?_ _|refine Jn ?_ Um Ua)):Below n a b:=h
theorem Jlo {n:Nat} {a b:World} (h:Below n a b:=by(repeat refine Jh ?_);repeat (first|exact Nt|(with_reducible assumption)|refine Jd ?_ Um|refine Below.setCell ?_ Ud _|refine Jc ?_ _|refine Jh ?_|refine Jn ?_ Um Ua)):Below n a b:=h
theorem lt0 (a b:World) (h:a.heap.size<b.heap.size:=by omega):a.heap.size<b.heap.size:=h
theorem ltA (a:World) (k:Nat) (b:World) (h:a.heap.size+k<b.heap.size:=by omega):a.heap.size+k<b.heap.size:=h
theorem Ja {w a:World} (h:Below w.heap.size w a) {p:Addr} {v:Value} (hc:w.cell? p=some v):a.cell? p=some v:=by
 rw [h.cell (Nu hc)];exact hc
theorem Jg {W w1:World} (hb:Below W.heap.size W w1):∀b o,b<W.heap.size->w1.cell? ⟨b,o,none⟩=W.cell? ⟨b,o,none⟩:=fun b o h=>hb.cell (p:=⟨b,o,none⟩) h
theorem aft {W w1:World} (hb:Below W.heap.size W w1):(∀b o,b<W.heap.size->w1.cell? ⟨b,o,none⟩=W.cell? ⟨b,o,none⟩)/\W.heap.size<=w1.heap.size:=⟨Jg hb,hb.size⟩
theorem alt {W w1:World} (hb:Below W.heap.size W w1):∀n,n<W.heap.size->n<w1.heap.size:=fun _ hn=>Nr hn hb.size
theorem mo {P:Program} {f:FuncId} {args:Array Value} {w:World} {v:Value} {K:Ending->World->Prop} (h:Calls P f args w fun r w'=>r = .returned v/\Below w.heap.size w w')
  (k:∀w1,Below w.heap.size w w1->(∀b o,b<w.heap.size->w1.cell? ⟨b,o,none⟩=w.cell? ⟨b,o,none⟩)->w.heap.size<=w1.heap.size->(∀n,n<w.heap.size->n<w1.heap.size)->K (.returned v) w1):Calls P f args w K:=
 h.mono fun r w1 ⟨hr,hb⟩=>hr ▸ k w1 hb (Jg hb) hb.size fun n hn=>Nr hn hb.size
theorem Kl {α:Type} {l:List α} {k:Nat} (h:k<l.length):∃x,l[k]?=some x/\x∈l/\l.drop k=x :: l.drop (k+1):=⟨l[k],Ng h,Nj h,No h⟩
theorem Jf {W w1:World} (hb:Below W.heap.size W w1):∀b o,b<W.heap.size->w1.frozen? ⟨b,o,none⟩=W.frozen? ⟨b,o,none⟩:=fun b o h=>hb.frozen (p:=⟨b,o,none⟩) h
theorem Jo {P:Program} {c:Code} {Q:Exit->Act->World->Prop} {a:Act} {W:World} (h:∀W0,W0=W->c.wp P Q a W0):c.wp P Q a W:=h W rfl
theorem J4 {w:World} {o:Obj} {p:Addr} {v:Value} (hc:w.cell? p=some v):(w.alloc o).cell? p=some v:=Ja (Jc (Nt) o) hc
theorem Zw {w:World} {p:Addr} {v:Value} (hc:w.cell? p=some v):w.drew.cell? p=some v:=hc
theorem Jx {P:Program} {id:Nat} {Q:Exit->Act->World->Prop} {a:Act} {w:World} {l:List Oper} (hm:P.follows .mixedOrders=true) (hB:Region.lexB .any l.toArray=true)
  (h:(∀(d:Nat) (os:Array Obj) (p:Addr),p.block<w.heap.size->(grow (redrawn w d) os).cell? p=w.cell? p)->
   wpQuiet P l.toArray (fun w'=>∃p:Regrown,w'=grow (redrawn w p.d) p.os) (fun a'=>∀w',(∃p:Regrown,w'=grow (redrawn w p.d) p.os)->Q .normal a' w') l a):(Code.region id l.toArray true).wp P Q a w:=
 wp_region_quiet_below hm hB (h fun d os _ hp=>(below_regrown w d os).cell hp)
theorem Jfg {w w':World} (h:∃p:Regrown,w'=grow (redrawn w p.d) p.os):Below w.heap.size w w':=by
 obtain⟨p,rfl⟩:=h;exact below_regrown w p.d p.os
theorem qbo {w w':World} (h:∃p:Regrown,w'=grow (redrawn w p.d) p.os):Below w.heap.size w w'/\(∀b o,b<w.heap.size->w'.cell? ⟨b,o,none⟩=w.cell? ⟨b,o,none⟩)/\w.heap.size<=w'.heap.size:=⟨Jfg h,Jg (Jfg h),(Jfg h).size⟩
mutual
def Jt (w:World):Ex->Option Addr->Nat->Prop
 | .mk _ _ _ l,A,cap=>l.length<=cap/\cap<=maxLen/\(0<l.length->∃b off,A=some ⟨b,off,none⟩/\Xv w b l off)
def Xv (w:World) (b:Nat):List Ex->Nat->Prop
 | [],_=>True
 | e :: l,off=>(∃A cap,w.cell? ⟨b,off,none⟩=some (.int .i64 e.kind)/\w.cell? ⟨b,off+1,none⟩=some (.int .i32 e.n)/\w.cell? ⟨b,off+2,none⟩=some (.string e.name)/\
   w.cell? ⟨b,off+3,none⟩=some (.slice A e.sub.length cap)/\Jt w e A cap)/\Xv w b l (off+4)
end
theorem Jao {w:World} {e:Ex} {A:Option Addr} {cap:Nat} : Jt w e A cap<->e.sub.length<=cap/\cap<=maxLen/\(0<e.sub.length->∃b off,A=some ⟨b,off,none⟩/\Xv w b e.sub off):=by
 cases e;simp [Jt,Ex.sub]
theorem Xv.get {w:World} {b:Nat} : ∀ {l:List Ex} {off k:Nat} {x:Ex},Xv w b l off->l[k]?=some x->
  ∃A cap,w.cell? ⟨b,off+k * 4,none⟩=some (.int .i64 x.kind)/\w.cell? ⟨b,off+k * 4+1,none⟩=some (.int .i32 x.n)/\w.cell? ⟨b,off+k * 4+2,none⟩=some (.string x.name)/\
   w.cell? ⟨b,off+k * 4+3,none⟩=some (.slice A x.sub.length cap)/\Jt w x A cap
 | [],off,k,x,_,h=>Lc
 | e :: l,off,0,x,h,hk=>by
  simp at hk;subst hk;simp only [Xv] at h;simpa using h.1
 | e :: l,off,k+1,x,h,hk=>by
  simp only [Xv] at h;have:=h.2.get (k:=k) Lq;have e1:off+4+k * 4=off+(k+1) * 4:=Ua
  rwa [e1] at this
mutual
theorem Jt.keep {w w':World} (hw:∀ {p:Addr} {v:Value},w.cell? p=some v->w'.cell? p=some v):∀(e:Ex) {A:Option Addr} {cap:Nat},Jt w e A cap->Jt w' e A cap
 | .mk _ _ _ l,A,cap,h=>by
  simp only [Jt] at h ⊢;refine⟨h.1,h.2.1,fun hl=>?_⟩;obtain⟨b,off,hA,hr⟩:=h.2.2 hl;exact⟨b,off,hA,Xv.keep hw l hr⟩
theorem Xv.keep {w w':World} (hw:∀ {p:Addr} {v:Value},w.cell? p=some v->w'.cell? p=some v) {b:Nat} : ∀(l:List Ex) {off:Nat},Xv w b l off->Xv w' b l off
 | [],off,_=>by simp [Xv]
 | e :: l,off,h=>by
  simp only [Xv] at h ⊢;obtain⟨⟨A,cap,h0,h1,h2,h3,h4⟩,hr⟩:=h;exact⟨⟨A,cap,hw h0,hw h1,hw h2,hw h3,Jt.keep hw e h4⟩,Xv.keep hw l hr⟩
end
theorem Jt.later {w w':World} {e:Ex} {A:Option Addr} {cap:Nat} (h:Jt w e A cap) (hb:Below w.heap.size w w'):Jt w' e A cap:=Jt.keep (fun hc=>Ja hb hc) e h
theorem Jt.get {w:World} {e x:Ex} {A:Option Addr} {cap k:Nat} (h:Jt w e A cap) (hk:e.sub[k]?=some x):∃b off A' cap',A=some ⟨b,off,none⟩/\
  w.cell? ⟨b,off+k * 4,none⟩=some (.int .i64 x.kind)/\w.cell? ⟨b,off+k * 4+1,none⟩=some (.int .i32 x.n)/\w.cell? ⟨b,off+k * 4+2,none⟩=some (.string x.name)/\
   w.cell? ⟨b,off+k * 4+3,none⟩=some (.slice A' x.sub.length cap')/\Jt w x A' cap':=by
 rw [Jao] at h;have am:k<e.sub.length:=(Nh hk).1;obtain⟨b,off,hA,hr⟩:=h.2.2 Ua;obtain⟨A',cap',h0,h1,h2,h3,h4⟩:=hr.get hk;exact⟨b,off,A',cap',hA,h0,h1,h2,h3,h4⟩
theorem Jt.len {w:World} {e:Ex} {A:Option Addr} {cap:Nat} (h:Jt w e A cap):e.sub.length<=cap/\cap<=maxLen:=by
 rw [Jao] at h;exact⟨h.1,h.2.1⟩
theorem Jm {k:IntKind} {a b:Int} (h:a=b):Ending.returned (.int k a) = .returned (.int k b):=by rw [h]
theorem Jk {a b:Bool} (h:a=b):Ending.returned (.bool a) = .returned (.bool b):=by rw [h]
theorem Kk {a b:ByteArray} (h:a=b):Ending.returned (.string a) = .returned (.string b):=by rw [h]
def exV (e:Ex) (A:Option Addr) (cap:Nat):Value:= .agg #[.int .i64 e.kind,.int .i32 e.n,.string e.name,.slice A e.sub.length cap]
structure Jfc (w:World) (b off:Nat) (v:Va):Prop where
 c0:w.cell? ⟨b,off,none⟩=some (.string v.name)
 c1:w.cell? ⟨b,off+1,none⟩=some (.int .i64 v.type)
 c2:w.cell? ⟨b,off+2,none⟩=some (.int .i64 v.ck)
 c3:w.cell? ⟨b,off+3,none⟩=some (.string v.cn)
def vaV (v:Va):Value:= .agg #[.string v.name,.int .i64 v.type,.int .i64 v.ck,.string v.cn]
def Ju (w:World) (l:List Va) (A:Option Addr) (cap:Nat):Prop:=
 l.length<=cap/\cap<=maxLen/\(0<l.length->∃b off,A=some ⟨b,off,none⟩/\∀k v,l[k]?=some v->Jfc w b (off+k * 4) v)
structure Jgf (w:World) (b off:Nat) (q:Qe) (A1:Option Addr) (c1:Nat) (A2:Option Addr) (c2:Nat):Prop where
 g0:w.cell? ⟨b,off,none⟩=some (.string q.name)
 g1:w.cell? ⟨b,off+1,none⟩=some (.int .i64 q.delay)
 g2:w.cell? ⟨b,off+2,none⟩=some (.int .i64 q.first.kind)
 g3:w.cell? ⟨b,off+3,none⟩=some (.int .i32 q.first.n)
 g4:w.cell? ⟨b,off+4,none⟩=some (.string q.first.name)
 g5:w.cell? ⟨b,off+5,none⟩=some (.slice A1 q.first.sub.length c1)
 g6:w.cell? ⟨b,off+6,none⟩=some (.int .i64 q.e.kind)
 g7:w.cell? ⟨b,off+7,none⟩=some (.int .i32 q.e.n)
 g8:w.cell? ⟨b,off+8,none⟩=some (.string q.e.name)
 g9:w.cell? ⟨b,off+9,none⟩=some (.slice A2 q.e.sub.length c2)
 s1:Jt w q.first A1 c1
 s2:Jt w q.e A2 c2
def qeV (q:Qe) (A1:Option Addr) (c1:Nat) (A2:Option Addr) (c2:Nat):Value:=
 .agg #[.string q.name,.int .i64 q.delay,.int .i64 q.first.kind,.int .i32 q.first.n,.string q.first.name,.slice A1 q.first.sub.length c1,.int .i64 q.e.kind,.int .i32 q.e.n,.string q.e.name,.slice A2 q.e.sub.length c2]
def Jap (w:World) (l:List Qe) (A:Option Addr) (cap:Nat):Prop:=
 l.length<=cap/\cap<=maxLen/\(0<l.length->∃b off,A=some ⟨b,off,none⟩/\∀k q,l[k]?=some q->∃A1 c1 A2 c2,Jgf w b (off+k * 10) q A1 c1 A2 c2)
theorem Jfc.later {w w':World} {b off:Nat} {v:Va} (h:Jfc w b off v) (hb:Below w.heap.size w w'):Jfc w' b off v:=
 ⟨Ja hb h.c0,Ja hb h.c1,Ja hb h.c2,Ja hb h.c3⟩
theorem Ju.later {w w':World} {l:List Va} {A:Option Addr} {cap:Nat} (h:Ju w l A cap) (hb:Below w.heap.size w w'):Ju w' l A cap:=
 ⟨h.1,h.2.1,fun hl=>by
  obtain⟨b,off,hA,hr⟩:=h.2.2 hl;exact⟨b,off,hA,fun k v hk=>(hr k v hk).later hb⟩⟩
theorem Ju.get {w:World} {l:List Va} {A:Option Addr} {cap k:Nat} {v:Va} (h:Ju w l A cap) (hk:l[k]?=some v):∃b off,A=some ⟨b,off,none⟩/\b<w.heap.size/\Jfc w b (off+k * 4) v:=by
 have am:k<l.length:=(Nh hk).1;obtain⟨b,off,hA,hr⟩:=h.2.2 Ua;exact⟨b,off,hA,Nu (hr k v hk).c0,hr k v hk⟩
theorem Ju.len {w:World} {l:List Va} {A:Option Addr} {cap:Nat} (h:Ju w l A cap):l.length<=cap/\cap<=maxLen:=⟨h.1,h.2.1⟩
theorem Jgf.later {w w':World} {b off:Nat} {q:Qe} {A1:Option Addr} {c1:Nat} {A2:Option Addr} {c2:Nat} (h:Jgf w b off q A1 c1 A2 c2) (hb:Below w.heap.size w w'):Jgf w' b off q A1 c1 A2 c2:=
 ⟨Ja hb h.g0,Ja hb h.g1,Ja hb h.g2,Ja hb h.g3,Ja hb h.g4,Ja hb h.g5,Ja hb h.g6,Ja hb h.g7,Ja hb h.g8,Ja hb h.g9,h.s1.later hb,h.s2.later hb⟩
theorem Jap.later {w w':World} {l:List Qe} {A:Option Addr} {cap:Nat} (h:Jap w l A cap) (hb:Below w.heap.size w w'):Jap w' l A cap:=
 ⟨h.1,h.2.1,fun hl=>by
  obtain⟨b,off,hA,hr⟩:=h.2.2 hl
  exact⟨b,off,hA,fun k v hk=>by
   obtain⟨A1,c1,A2,c2,h⟩:=hr k v hk;exact⟨A1,c1,A2,c2,h.later hb⟩⟩⟩
theorem Jap.get {w:World} {l:List Qe} {A:Option Addr} {cap k:Nat} {q:Qe} (h:Jap w l A cap) (hk:l[k]?=some q):∃b off A1 c1 A2 c2,A=some ⟨b,off,none⟩/\b<w.heap.size/\Jgf w b (off+k * 10) q A1 c1 A2 c2:=by
 have am:k<l.length:=(Nh hk).1;obtain⟨b,off,hA,hr⟩:=h.2.2 Ua;obtain⟨A1,c1,A2,c2,h⟩:=hr k q hk;exact⟨b,off,A1,c1,A2,c2,hA,Nu h.g0,h⟩
theorem Jap.len {w:World} {l:List Qe} {A:Option Addr} {cap:Nat} (h:Jap w l A cap):l.length<=cap/\cap<=maxLen:=⟨h.1,h.2.1⟩
structure PrA where
 A1:Option Addr
 c1:Nat
 A2:Option Addr
 c2:Nat
 A3:Option Addr
 c3:Nat
 A4:Option Addr
 c4:Nat
structure Kr (w:World) (p:Pr) (a:PrA):Prop where
 ins:Ju w p.ins a.A1 a.c1
 outs:Ju w p.outs a.A2 a.c2
 locals:Ju w p.locals a.A3 a.c3
 eqs:Jap w p.eqs a.A4 a.c4
theorem Kr.later {w w':World} {p:Pr} {a:PrA} (h:Kr w p a) (hb:Below w.heap.size w w'):Kr w' p a:=⟨h.ins.later hb,h.outs.later hb,h.locals.later hb,h.eqs.later hb⟩
def prV (p:Pr) (a:PrA):Value:= .agg #[.string p.name,.slice a.A1 p.ins.length a.c1,.slice a.A2 p.outs.length a.c2,.slice a.A3 p.locals.length a.c3,.slice a.A4 p.eqs.length a.c4]
end Go.Proofs.YtdgjplldlfeolaaGreatDoor
namespace Go.Proofs.YtdgjplldlfeolaaGreatDoor
open Go.RowKit
def Zh (c:Int):Bool:=decide (97<=c/\c<=122)
def Jbz (c:Int):Bool:=decide (48<=c/\c<=57)
def Q5 (c:Int):Bool:=Zh c || Jbz c || decide (c=95)
theorem Jkp (c:Int) (w:World):Calls Tryz.prog 77 #[.int .i32 c] w fun r w'=>r = .returned (.bool (Zh c))/\w=w':=by
 unfold Zh
 by_cases h:97<=c
 ·go_enter Tryz.func77,Tryz.ntmps77
  go_wp2_with fail
  go_ret;exact⟨Jk (by simp [h]),rfl⟩
 ·go_enter Tryz.func77,Tryz.ntmps77
  go_wp2_with fail
  go_ret;exact⟨Jk Ui,rfl⟩
theorem Ju5 (c:Int) (w:World):Calls Tryz.prog 80 #[.int .i32 c] w fun r w'=>r = .returned (.bool (Jbz c))/\w=w':=by
 unfold Jbz
 by_cases h:48<=c
 ·go_enter Tryz.func80,Tryz.ntmps80
  go_wp2_with fail
  go_ret;exact⟨Jk (by simp [h]),rfl⟩
 ·go_enter Tryz.func80,Tryz.ntmps80
  go_wp2_with fail
  go_ret;exact⟨Jk Ui,rfl⟩
theorem Jm2 (c:Int) (w:World):Calls Tryz.prog 78 #[.int .i32 c] w fun r w'=>r = .returned (.bool (Q5 c))/\w=w':=by
 unfold Q5
 cases h:Zh c <;> cases h2:Jbz c <;>
 ·go_enter Tryz.func78,Tryz.ntmps78
  go_wp2_with (first|(go_at_call 77;refine(Jkp _ _).mono ?_;rintro r w1 ⟨rfl,rfl⟩)|(go_at_call 80;refine(Ju5 _ _).mono ?_;rintro r w1 ⟨rfl,rfl⟩))
  go_ret;exact⟨Jk (by first|rfl|(rw [Bool.eq_iff_iff];simp)),rfl⟩
def Jdo (s:ByteArray):Bool:=s.toList == [110,111,100,101] || s.toList == [114,101,116,117,114,110,115] || s.toList == [118,97,114] || s.toList == [108,101,116] || s.toList == [116,101,108] || s.toList == [105,102] || s.toList == [116,104,101,110] || s.toList == [101,108,115,101] || s.toList == [102,98,121] || s.toList == [112,114,101] || s.toList == [119,104,101,110] || s.toList == [117,110,108,101,115,115] || s.toList == [109,101,114,103,101] || s.toList == [110,111,116] || s.toList == [116,114,117,101] || s.toList == [102,97,108,115,101] || s.toList == [105,110,116] || s.toList == [98,111,111,108]
theorem Jwp (s:ByteArray) (w:World):Calls Tryz.prog 79 #[.string s] w fun r w'=>r = .returned (.bool (Jdo s))/\w=w':=by
 go_enter Tryz.func79,Tryz.ntmps79
 go_wp2_with fail
 all_goals first
  | (exfalso;simp_all;done)
  | (go_ret;exact⟨Jk (by simp [Jdo, *]),rfl⟩)
def Zb (p:Int->Bool) (s:ByteArray):Nat->Nat->Nat
 | 0,_=>s.size
 | fuel+1,pos=>if pos<s.size then(if p ((Utf8.decode s pos).1:Int) then Zb p s fuel (pos+(Utf8.decode s pos).2) else pos) else s.size
theorem Jqv (s:ByteArray) (pos:Nat):1<=(Utf8.decode s pos).2:=by
 simp only [Utf8.decode]
 repeat' split
 all_goals simp
theorem Jhm (s:ByteArray):s.extract 0 s.size=s:=by
 ext1;simp
theorem Jsk (s:ByteArray) (w:World) (hs:s.size<=maxLen):Calls Tryz.prog 74 #[.string s,.func (.func 78) #[] #[]] w fun r w'=>r = .returned (.string (s.extract 0 (Zb Q5 s (s.size+1) 0)))/\Below w.heap.size w w':=by
 unfold maxLen at hs
 go_enter Tryz.func74,Tryz.ntmps74
 go_wp2_with fail
 go_loopg [] (s.size+1) (fun k wr=>∃pos,s.size<k+pos/\Zb Q5 s k pos=Zb Q5 s (s.size+1) 0/\wr=w.iter s pos)
 case atStart=>exact⟨0,Ua,rfl,rfl⟩
 case round=>
  obtain⟨pos,hk,aa,rfl⟩:=hrel
  by_cases am:pos<s.size
  ·have qU:=fun ty=>run_next_any (P:=Tryz.prog) w s pos ty am;obtain⟨k,rfl⟩:∃k,gk=k+1:=⟨gk-1,Ua⟩;have cP:=Jqv s pos;rw [Zb,if_pos am] at aa;generalize (Utf8.decode s pos).1=rn at qU aa;generalize (Utf8.decode s pos).2=sz at qU aa cP
   cases hp:Q5 (rn:Int)
   ·rw [hp,if_neg Uh] at aa;have HR:=Nf aa;clear aa
    go_wp2_with (go_at_call 78;refine(Jm2 _ _).mono ?_;rintro r w1 ⟨rfl,rfl⟩)
    exact Ub6
   ·rw [hp,if_pos rfl] at aa;have HR:=Nf aa;clear aa
    go_wp2_with (go_at_call 78;refine(Jm2 _ _).mono ?_;rintro r w1 ⟨rfl,rfl⟩)
    exact Ub3
  ·have qU:=fun ty=>run_next_end (P:=Tryz.prog) w s pos ty am;have fa:Zb Q5 s gk pos=s.size:=Dj;exact Ubc
def Kz (s:ByteArray):Bool:=if h:0<s.size then decide (s.size<=16) && Zh ((s[0]'h).toNat:Int) && decide (Zb Q5 s (s.size+1) 0=s.size) && !Jdo s else false
theorem Zf {a b:ByteArray} : (a.toList == b.toList)=true<->a=b:=by
 rw [beq_iff_eq,ByteArray.toList_eq,ByteArray.toList_eq];exact⟨fun h=>WideShapes.bytes_inj h,fun h=>by rw [h]⟩
theorem Ju9 {a b:ByteArray} (h:a≠b):(a.toList == b.toList)=false:=by
 rw [<-Bool.not_eq_true,Zf];exact h
theorem Jmj (p:Int->Bool) (s:ByteArray):∀f pos,Zb p s f pos<=s.size
 | 0,_=>Ns _
 | f+1,pos=>by
  unfold Zb
  split
  ·split
   ·exact Jmj p s f _
   ·exact Ua
  ·exact Ns _
theorem Jfp {s:ByteArray} (h:0<s.size):s.toList.isEmpty=false:=by
 rw [ByteArray.toList_eq]
 cases h2:s.data.toList with
 | nil=>exfalso;rw [<-ByteArray.size_data,<-Array.length_toList,h2] at h;simp at h
 | cons=>rfl
theorem Je2 {s:ByteArray} (h:¬0<s.size):s=⟨#[]⟩:=by
 ext1;apply Array.eq_empty_of_size_eq_zero;rw [ByteArray.size_data];omega
theorem Jaf {s:ByteArray} (h:Kz s=true):s.size<=16:=by
 unfold Kz at h
 split at h
 ·simp at h;exact h.1.1.1
 ·exact Lc
theorem Qt (s:ByteArray) (w:World):Calls Tryz.prog 47 #[.string s] w fun r w'=>r = .returned (.bool (Kz s))/\Below w.heap.size w w':=by
 by_cases h0:0<s.size
 ·have he:=Jfp h0
  by_cases h1:s.size<=16
  ·have hb:s[0].toNat<256:=UInt8.toNat_lt _;have hv:Kz s=(Zh (s[0].toNat:Int) && decide (Zb Q5 s (s.size+1) 0=s.size) && !Jdo s):=by unfold Kz;rw [dif_pos h0];simp [h1]
   have HV:=Nf hv;clear hv
   have hx:((s.extract 0 (Zb Q5 s (s.size+1) 0)).toList == s.toList)=decide (Zb Q5 s (s.size+1) 0=s.size):=by
    by_cases h:Zb Q5 s (s.size+1) 0=s.size
    ·rw [h,Jhm];simp
    ·rw [decide_eq_false h];refine Ju9 fun e=>?_;have:=congrArg ByteArray.size e;rw [ByteArray.size_extract] at this;have:=Jmj Q5 s (s.size+1) 0;exact Ua
   cases h2:Zh (s[0].toNat:Int) <;> cases h3:decide (Zb Q5 s (s.size+1) 0=s.size) <;> rw [h3] at hx <;> cases h4:Jdo s <;>
   ·rw [h2,h3,h4] at HV
    go_enter Tryz.func47,Tryz.ntmps47
    go_wp2_with (first|(go_at_call 77;refine(Jkp _ _).mono ?_;rintro r w1 ⟨rfl,rfl⟩)|(go_at_call 74;refine(Jsk _ _ Uo).mono ?_;rintro r w1 ⟨rfl,ac⟩)|(go_at_call 79;refine(Jwp _ _).mono ?_;rintro r w1 ⟨rfl,rfl⟩))
    go_ret;exact⟨Jk Vb,Jb⟩
  ·have hv:Kz s=false:=by unfold Kz;rw [dif_pos h0];simp [h1]
   have HV:=Nf hv;clear hv
   go_enter Tryz.func47,Tryz.ntmps47
   go_wp2_with fail
   go_ret;exact⟨Jk Ln,Jb⟩
 ·have hv:Kz s=false:=by unfold Kz;rw [dif_neg h0]
  have HV:=Nf hv;clear hv;obtain rfl:=Je2 h0
  go_enter Tryz.func47,Tryz.ntmps47
  go_wp2_with fail
  go_ret;exact⟨Jk Ln,Jb⟩
theorem Jt2 (e:Ex):∀(A:Option Addr) (cap:Nat) (most:Int) (w:World),Jt w e A cap->-1000000<=most->most<=1000000->
  Calls Tryz.prog 44 #[exV e A cap,.int .i64 most] w fun r w'=>r = .returned (.int .i64 (e.count most))/\Below w.heap.size w w':=by
 induction e using Ex.ind with
 | h e ih=>
 intro A cap most w he hm cI;have hl:=he.len;unfold maxLen at hl;obtain⟨bI,aD⟩:=hl;unfold exV
 go_enter Tryz.func44,Tryz.ntmps44
 go_wp2_with fail
 go_loopw [5,11] (fun m i wr=>∃(k:Nat) (m':Int),k<=e.sub.length/\i = .int .i64 k/\m = .int .i64 m'/\1<=m'/\m'<=max 1 most/\Ex.countL (e.sub.drop k) m' most=e.count most/\Below w.heap.size w wr) (fun _ i _=>e.sub.length-(intOf i).toNat)
 case atStart=>exact⟨0,1,Np,rfl,rfl,Ua,Ua,by simp [Ex.count_eq],Jb⟩
 case round=>
  obtain⟨k,m',hk,rfl,rfl,h0,h1,aa,ab⟩:=hrel
  by_cases am:k<e.sub.length
  ·have hx:e.sub[k]?=some e.sub[k]:=Ng am;have aj:e.sub[k]∈e.sub:=Nj am;have hd:e.sub.drop k=e.sub[k] :: e.sub.drop (k+1):=No am;generalize e.sub[k]=x at hx aj hd;obtain⟨b,off,A',cap',rfl,c0,c1,c2,c3,hs⟩:=(he.later ab).get hx;rw [hd,Ex.countL] at aa;have ct:=Ex.count_bd x (most-m');have ihx:=ih x aj
   by_cases qK:m'>=most
   ·rw [if_pos qK] at aa;have HR:=Nf aa;clear aa hd hx;exact Uc2
   ·rw [if_neg qK] at aa;have HR:=Nf aa;clear aa hd hx
    go_wp2_with (go_at_call 44;refine(ihx A' cap' (most-m') _ (hs.later Jb) Ua Ua).mono ?_;rintro r w1 ⟨rfl,ac⟩)
    exact Uba
  ·exact Uas
def Jw (k:Int):Int×Int×Int×Bool×Bool:=
 if k=1 then(0,0,2147483647,false,true)
 else if k=2 then(0,0,1,false,true)
 else if k=3 then(0,0,0,true,true)
 else if k=4 then(1,1,2,false,true)
 else if k=5 then(2,1,16,false,true)
 else if k=6 then(3,0,0,false,true)
 else if k=7 then(2,0,0,false,true)
 else if k=8 then(1,0,0,true,true)
 else if k=9 then(1,0,0,true,true)
 else if k=10 then(2,0,0,true,true)
 else(0,0,0,false,false)
def Jl (k n:Int) (s:ByteArray) (len:Nat):Bool:=
 (Jw k).2.2.2.2 && ((len:Int) == (Jw k).1) && !decide (n<(Jw k).2.1) && !decide ((Jw k).2.2.1<n) && ((Jw k).2.2.2.1 == Kz s) && ((Jw k).2.2.2.1 || s.toList.isEmpty)
namespace Ex
mutual
def formed:Ex->Bool
 | mk k n s l=>Jl k n s l.length && formedL l
def formedL:List Ex->Bool
 | []=>true
 | x :: l=>formed x && formedL l
end
theorem formed_eq (e:Ex):e.formed=(Jl e.kind e.n e.name e.sub.length && formedL e.sub):=by cases e;simp [formed,kind,n,name,sub]
def right (e:Ex):Int:=
 if 120<e.count 121 then 3 else if 12<e.depth then 17 else if e.formed then 0 else 4
theorem right_zero {e:Ex} : e.right=0<->e.count 121<=120/\e.depth<=12/\e.formed=true:=by
 unfold right
 split
 ·exact Ua
 ·split
  ·exact Ua
  ·split
   ·rename_i h;simp [h];omega
   ·rename_i h;simp [h]
def literal (e:Ex):Bool:=
 if e.right=0 then
  if e.kind=4/\e.n=1 then(match e.sub with|x :: _=>x.kind == 1 | []=>false) else(e.kind == 1 || e.kind == 2)
 else false
mutual
def same:Ex->Ex->Bool
 | mk k n s l,y=>k == y.kind && n == y.n && s.toList == y.name.toList && l.length == y.sub.length && sameL l y.sub
def sameL:List Ex->List Ex->Bool
 | [],_=>true
 | _ :: _,[]=>true
 | x :: l,y :: m=>same x y && sameL l m
end
theorem same_eq (a b:Ex):same a b=(a.kind == b.kind && a.n == b.n && a.name.toList == b.name.toList && a.sub.length == b.sub.length && sameL a.sub b.sub):=by
 cases a;simp [same,kind,n,name,sub]
end Ex
def Ke (v:Va) (own:Bool):Bool:=
 Kz v.name && (v.type == 1 || v.type == 2) && (if v.ck=0 then v.cn.toList.isEmpty else if v.ck=1\/v.ck=2 then own && Kz v.cn else false)
def eqB (q:Qe):Bool:=
 Kz q.name && q.e.right == 0 && (if q.delay=1 then q.first.literal else if q.delay=0\/q.delay=2 then q.first.same Ex.zero else false)
def Qw (p:Pr):Bool:=
 Kz p.name && p.ins.all (Ke · false) && p.outs.all (Ke · false) && p.locals.all (Ke · true) && p.eqs.all eqB
end Go.Proofs.YtdgjplldlfeolaaGreatDoor
namespace Go.Proofs.YtdgjplldlfeolaaGreatDoor
open Go.RowKit Go.Sort
def Jb7:Nat->Nat->List UInt8->List UInt8
 | 0,_,acc=>acc
 | f+1,n,acc=>if n / 10=0 then UInt8.ofNat (48+n % 10) :: acc else Jb7 f (n / 10) (UInt8.ofNat (48+n % 10) :: acc)
def Jgk (a:Int):List UInt8:=if a<0 then 45 :: Jb7 10 a.natAbs [] else Jb7 10 a.natAbs []
def Zn (a:Int):ByteArray:=⟨(Jgk a).toArray⟩
def Xy (l:List UInt8):List Value:=List.replicate (11-l.length) (.int .u8 0) ++ l.map (fun c=> .int .u8 c.toNat)
theorem Jn5 (n:Nat) (h:n<256):(UInt8.ofNat n).toNat=n:=Ui
theorem Js6 {l:List UInt8} (h:l.length<=11) {j:Nat} {c:UInt8} (hc:l[j]?=some c):(Xy l)[11-l.length+j]?=some (.int .u8 c.toNat):=by
 unfold Xy;rw [List.getElem?_append_right Uh];simp [hc]
theorem Jga {l:List UInt8} {x:Nat} (h:x+l.length<11):(Xy l)[x]?=some (.int .u8 0):=by
 unfold Xy;rw [List.getElem?_append_left Ui];simp [List.getElem?_replicate];omega
theorem Jhc {l:List UInt8} {x:Nat} {c:UInt8} {v:Int} (h:x+l.length=10) (hv:v=(c.toNat:Int)):(Xy l).set x (.int .u8 v)=Xy (c :: l):=by
 subst hv;unfold Xy;have e1:11-l.length=x+1:=Ua;have e2:11-(c :: l).length=x:=Ui;rw [e1,e2,List.set_append_left _ _ Uh];rw [List.replicate_succ',List.set_append_right _ _ Uh];exact Uh
theorem Jlh (l:List UInt8):∀(r:ByteArray),(l.map fun c:UInt8=>(c.toNat:Int)).foldl (fun r n=>r.push (UInt8.ofNat n.toNat)) r=⟨(r.data.toList ++ l).toArray⟩:=by
 induction l with
 | nil=>intro r;cases r;simp
 | cons c l ih=>
  intro r;rw [List.map_cons,List.foldl_cons,ih]
  congr 1
  simp
theorem Jje (w:World) (l:List UInt8) (hl:l.length<=11) (n c:Nat) (hn:n=l.length) :
  (convert 50 9 (.slice (some ⟨w.heap.size,11-l.length,none⟩) n c)).run Tryz.prog (w.alloc (.cells (Xy l).toArray 168)) = .ok (.string ⟨l.toArray⟩) (w.alloc (.cells (Xy l).toArray 168)):=by
 subst hn;rw [run_convert_bytes_string _ _ _ _ _ _ _ Tryz.underlying50 Tryz.underlying5 Tryz.underlying9]
 have oQ:(loadCells ⟨w.heap.size,11-l.length,none⟩ l.length).run Tryz.prog (w.alloc (.cells (Xy l).toArray 168)) = .ok ((l.map fun c:UInt8=>(c.toNat:Int)).map (Value.int .u8)).toArray (w.alloc (.cells (Xy l).toArray 168)):=by
  have:=run_loadCells_list (P:=Tryz.prog) (w.alloc (.cells (Xy l).toArray 168)) ⟨w.heap.size,11-l.length,none⟩ ((l.map fun c:UInt8=>(c.toNat:Int)).map (Value.int .u8)) (fun j v hj=>by
   have cQ:(⟨w.heap.size,11-l.length,none⟩:Addr).add j=⟨w.heap.size,11-l.length+j,none⟩:=Lr;rw [cQ,cell_of_row _ _ _ _ _ _ (heap_alloc_new w _)];simp only [List.map_map,List.getElem?_map,Option.map_eq_some_iff] at hj;obtain⟨c,hc,rfl⟩:=hj;simpa using Js6 hl hc)
  simpa using this
 rw [run_bytesToString _ _ _ _ _ oQ,Jlh];simp
theorem Jog:∀f m l,(Jb7 f m l).length<=f+l.length
 | 0,_,_=>by simp [Jb7]
 | f+1,m,l=>by
  unfold Jb7
  split
  ·exact Ui
  ·have:=Jog f (m / 10) (UInt8.ofNat (48+m % 10) :: l);simp only [Nl] at this;omega
theorem Jie (w:World) (y:Nat) (hy:y<11) (W:World):(Instr.sliceAt 168 (.pointer (some ⟨w.heap.size,0,none⟩)) (some (.int .i64 (y:Int))) none none).run Tryz.prog W = .ok (.slice (some ⟨w.heap.size,y,none⟩) (11-y) (11-y)) W:=by
 have hn:Tryz.prog.arrayLen 168=11:=Ue;have hs:(sizeOf (Tryz.prog.elem 168)).run Tryz.prog W = .ok 1 W:=Ue;rw [run_sliceAt_array_l W 168 ⟨w.heap.size,0,none⟩ Ue .i64 y Ua (by rw [hn];omega),hs];simp only [Result.andThen,slicedAt,hn,Int.toNat_natCast,Nat.mul_one];rw [if_neg Ua]
 congr 4
 unfold Addr.add
 split
 ·simp_all
 ·exact Uh
theorem Jtb (a:Int) (w:World) (h1 : -2147483648<=a) (h2:a<=2147483647) :
  Calls Tryz.prog 52 #[.int .i32 a] w fun r w'=>r = .returned (.string (Zn a))/\Below w.heap.size w w':=by
 by_cases h:a<0
 ·go_enter Tryz.func52,Tryz.ntmps52
  go_wp2_with fail
  go_loopg [4,5] 10 (fun f i n wr=>∃(m x:Nat) (ds:List UInt8),x=f/\1<=x/\x+ds.length=10/\m<10 ^ f/\i = .int .i64 ((x:Int)+1)/\n = .int .i64 m/\Jb7 f m ds=Jb7 10 a.natAbs []/\wr=w.alloc (.cells (Xy ds).toArray 168))
  case atStart=>exact⟨a.natAbs,10,[],rfl,Ua,rfl,Ua,rfl,by congr 1;omega,rfl,rfl⟩
  case round=>
   obtain⟨m,x,ds,rfl,hx0,hx,hm,rfl,rfl,aa,rfl⟩:=hrel;have ev:(Xy ds).toArray[x]?=some (.int .u8 0):=by simpa using Jga Ua
   have bW:(Xy ds).set x (.int .u8 (48+(m:Int) % 10))=Xy (UInt8.ofNat (48+m % 10) :: ds):=Jhc hx (by rw [Jn5 _ Ua];omega);have hx11:(x:Int)<11:=Ua;have xF:x<11:=Ua
   have xG:m<=10000000000:=by
    have:=Nat.pow_le_pow_right (n:=10) Ua (show x<=10 by omega);exact Ua
   obtain⟨y,rfl⟩:∃y,x=y+1:=⟨x-1,Ua⟩;have cI:m / 10<10 ^ y:=by rw [Nat.pow_succ] at hm;omega
   rw [Jb7] at aa
   by_cases hd:m / 10=0
   ·rw [if_pos hd] at aa;generalize UInt8.ofNat (48+m % 10)=d at aa bW;have hcell2:(Xy (d :: ds)).toArray[y]?=some (.int .u8 0):=by simpa using Jga Ui
    have hset2:(Xy (d :: ds)).set y (.int .u8 45)=Xy (45 :: d :: ds):=Jhc Ui Gp;have hy11:(y:Int)<11:=Ua;have oR:y<11:=Ua;have dF:=Jie w y oR;have ky:=Jje w (45 :: d :: ds) Ui (11-y) (11-y) Ui;have e11:11-(45 :: d :: ds).length=y:=Ui;rw [e11] at ky;clear e11;have hv:Zn a=⟨(45 :: d :: ds).toArray⟩:=by unfold Zn Jgk;rw [if_pos Ua,<-aa]
    exact Ubd
   ·exact Bo
 ·go_enter Tryz.func52,Tryz.ntmps52
  go_wp2_with fail
  go_loopg [4,5] 10 (fun f i n wr=>∃(m x:Nat) (ds:List UInt8),x=f/\1<=x/\x+ds.length=10/\m<10 ^ f/\i = .int .i64 ((x:Int)+1)/\n = .int .i64 m/\Jb7 f m ds=Jb7 10 a.natAbs []/\wr=w.alloc (.cells (Xy ds).toArray 168))
  case atStart=>exact⟨a.natAbs,10,[],rfl,Ua,rfl,Ua,rfl,by congr 1;omega,rfl,rfl⟩
  case round=>
   obtain⟨m,x,ds,rfl,hx0,hx,hm,rfl,rfl,aa,rfl⟩:=hrel;have ev:(Xy ds).toArray[x]?=some (.int .u8 0):=by simpa using Jga Ua
   have bW:(Xy ds).set x (.int .u8 (48+(m:Int) % 10))=Xy (UInt8.ofNat (48+m % 10) :: ds):=Jhc hx (by rw [Jn5 _ Ua];omega);have hx11:(x:Int)<11:=Ua;have xF:x<11:=Ua
   have xG:m<=10000000000:=by
    have:=Nat.pow_le_pow_right (n:=10) Ua (show x<=10 by omega);exact Ua
   obtain⟨y,rfl⟩:∃y,x=y+1:=⟨x-1,Ua⟩;have cI:m / 10<10 ^ y:=by rw [Nat.pow_succ] at hm;omega
   rw [Jb7] at aa
   by_cases hd:m / 10=0
   ·rw [if_pos hd] at aa;generalize UInt8.ofNat (48+m % 10)=d at aa bW;have hy11:(y:Int)+1<11:=Ua;have oR:y+1<11:=Ua;have dF:=Jie w (y+1) oR;rw [show((y+1:Nat):Int)=(y:Int)+1 from by omega] at dF;have ky:=Jje w (d :: ds) Ui (10-y) (10-y) Ui;have e11:11-(d :: ds).length=y+1:=Ui;rw [e11] at ky;clear e11;have hv:Zn a=⟨(d :: ds).toArray⟩:=by unfold Zn Jgk;rw [if_neg Ua,<-aa]
    exact Ubd
   ·exact Bo
end Go.Proofs.YtdgjplldlfeolaaGreatDoor
namespace Go.Proofs.YtdgjplldlfeolaaGreatDoor
open Go.RowKit
theorem Juy (e:Ex):∀(A:Option Addr) (cap:Nat) (w:World),Jt w e A cap->e.size<=1000000->
  Calls Tryz.prog 45 #[exV e A cap] w fun r w'=>r = .returned (.int .i64 e.depth)/\Below w.heap.size w w':=by
 induction e using Ex.ind with
 | h e ih=>
 intro A cap w he hz;have hl:=he.len;unfold maxLen at hl;obtain⟨bI,aD⟩:=hl;have qY:=Ex.depth_bd e;unfold exV
 go_enter Tryz.func45,Tryz.ntmps45
 go_wp2_with fail
 go_loopw [3,9] (fun m i wr=>∃(k:Nat) (m':Int),k<=e.sub.length/\i = .int .i64 k/\m = .int .i64 m'/\0<=m'/\m'<=1000000/\Ex.depthL (e.sub.drop k) m'+1=e.depth/\Below w.heap.size w wr) (fun _ i _=>e.sub.length-(intOf i).toNat)
 case atStart=>exact⟨0,0,Np,rfl,rfl,Ua,Ua,by simp [Ex.depth_eq],Jb⟩
 case round=>
  obtain⟨k,m',hk,rfl,rfl,h0,h1,aa,ab⟩:=hrel
  by_cases am:k<e.sub.length
  ·obtain⟨x,hx,aj,hd⟩:=Kl am;obtain⟨b,off,A',cap',rfl,c0,c1,c2,c3,hs⟩:=(he.later ab).get hx;rw [hd,Ex.depthL] at aa;have ct:=Ex.depth_bd x;have cE:=Ex.size_sub hx;have ihx:=ih x aj;have HR:=Nf aa;clear aa hd hx
   go_wp2_with (go_at_call 45;refine(ihx A' cap' _ (hs.later Jb) Ua).mono ?_;rintro r w1 ⟨rfl,ac⟩)
   go_roundw
   case rel=>exact⟨k+1,max m' x.depth,Ua,Uw,by first|rfl|go_num,Ua,Ua,HR.out,Jb⟩
   case measure=>simp [intOf];omega
  ·have bk:k=e.sub.length:=Ua;rw [bk,Nn] at aa;rw [Ex.depthL] at aa;have HR:=Nf aa;clear aa bk;exact Uc2
theorem Jbm (k:Int) (w:World):Calls Tryz.prog 87 #[.int .i64 k] w fun r w'=>r = .returned (.tuple #[.int .i64 (Jw k).1,.int .i32 (Jw k).2.1,.int .i32 (Jw k).2.2.1,.bool (Jw k).2.2.2.1,.bool (Jw k).2.2.2.2])/\w=w':=by
 go_enter Tryz.func87,Tryz.ntmps87
 go_wp2_with fail
 all_goals (refine Nv (v:= .tuple #[.int .i64 (Jw k).1,.int .i32 (Jw k).2.1,.int .i32 (Jw k).2.2.1,.bool (Jw k).2.2.2.1,.bool (Jw k).2.2.2.2]) (by simp_all [results,Tryz.results87,go_sem,Jw]) rfl ⟨rfl,rfl⟩)
end Go.Proofs.YtdgjplldlfeolaaGreatDoor
namespace Go.Proofs.YtdgjplldlfeolaaGreatDoor
open Go.RowKit Go.Sort
theorem Jbf {a b:Int} (h:(a == b)=true):a=b:=Vl
theorem Jei {a b:Int} (h:(a != b)=false):a=b:=Vl
theorem Jgi {a b:Int} (h:(a != b)=false):(a == b)=true:=Vl
theorem Jgo {a b:Int} (h:(a != b)=true):(a == b)=false:=Vl
theorem Jw3 (e:Ex):∀(y:Ex) (A:Option Addr) (cap:Nat) (A2:Option Addr) (cap2:Nat) (w:World),Jt w e A cap->Jt w y A2 cap2->
  Calls Tryz.prog 50 #[exV e A cap,exV y A2 cap2] w fun r w'=>r = .returned (.bool (e.same y))/\Below w.heap.size w w':=by
 induction e using Ex.ind with
 | h e ih=>
 intro y A cap A2 cap2 w he hy;have hl:=he.len;have qM:=hy.len;unfold maxLen at hl qM;obtain⟨bI,aD⟩:=hl;obtain⟨fD,cG⟩:=qM;have hv:=Ex.same_eq e y;unfold exV
 cases h1:(e.kind != y.kind)
 case true=>
   rw [Jgo h1,Bool.false_and,Bool.false_and,Bool.false_and,Bool.false_and] at hv;exact Ua7
 rw [Jgi h1,Bool.true_and] at hv
 cases h2:(e.n != y.n)
 case true=>
   rw [Jgo h2,Bool.false_and,Bool.false_and,Bool.false_and] at hv;exact Ua7
 rw [Jgi h2,Bool.true_and] at hv
 cases h3:(e.name.toList == y.name.toList)
 case false=>
   rw [h3,Bool.false_and,Bool.false_and] at hv;exact Ua7
 rw [h3,Bool.true_and] at hv
 cases h4:((e.sub.length:Int) != y.sub.length)
 case true=>
   have oh:(e.sub.length == y.sub.length)=false:=by {simp at h4;simp;omega};rw [oh,Bool.false_and] at hv;clear oh
   exact Ua7
 have oh:e.sub.length=y.sub.length:=by have:=Jei h4;omega
 rw [oh,beq_self_eq_true,Bool.true_and] at hv;have HV:=Nf hv;clear hv;have H4:=Nf oh;clear oh
 go_enter Tryz.func50,Tryz.ntmps50
 go_wp2_with fail
 go_loopw [38] (fun i wr=>∃(k:Nat),k<=e.sub.length/\i = .int .i64 k/\Ex.sameL (e.sub.drop k) (y.sub.drop k)=e.same y/\wr.cell? ⟨w.heap.size+1,3,none⟩=some (.slice A2 y.sub.length cap2)/\Below w.heap.size w wr) (fun i _=>e.sub.length-(intOf i).toNat)
 case atStart=>exact⟨0,Np,rfl,S8,Uc,Jb⟩
 case round=>
  obtain⟨k,hk,rfl,aa,vV,ab⟩:=hrel;have gt:=Nu vV;dsimp only at gt;have hbz':=lt0 w wr
  by_cases am:k<e.sub.length
  ·have dO:k<y.sub.length:=by have:=H4.out;omega
   obtain⟨x,hx,aj,hd⟩:=Kl am;obtain⟨b,off,A',cap',rfl,c0,c1,c2,c3,hs⟩:=(he.later ab).get hx;have qh:y.sub[k]?=some y.sub[k]:=Ng dO;have gN:y.sub.drop k=y.sub[k] :: y.sub.drop (k+1):=No dO;generalize y.sub[k]=x2 at qh gN;obtain⟨b2,off2,A2',cap2',rfl,g0,g1,g2,g3,gq⟩:=(hy.later ab).get qh;rw [hd,gN,Ex.sameL] at aa;have ihx:=ih x aj;have aq:=Nu g0;dsimp only at aq;have iJ:b2<wr.heap.size+1:=Ua
   cases jN:x.same x2
   ·rw [jN] at aa;have HR:=Nf aa;clear aa hd gN hx qh
    go_wp2_with fail
    refine Jx Ue Ue (fun bj=>?_)
    repeat (quiet_step ((go_at_call 50;exact Calls.regrown_of (ihx x2 _ _ _ _ _ (hs.later Jb) (gq.later Jb)))))
    refine wpQuiet_nil ?_;intro wq au;replace au:=qbo au;obtain⟨au,dA,bh⟩:=au;clear bj
    (try simp at bh)
    exact Uc1
   ·rw [jN] at aa;have HR:=Nf aa;clear aa hd gN hx qh
    go_wp2_with fail
    refine Jx Ue Ue (fun bj=>?_)
    repeat (quiet_step ((go_at_call 50;exact Calls.regrown_of (ihx x2 _ _ _ _ _ (hs.later Jb) (gq.later Jb)))))
    refine wpQuiet_nil ?_;intro wq au;replace au:=qbo au;obtain⟨au,dA,bh⟩:=au;clear bj
    (try simp at bh)
    go_wp2_with fail
    go_roundw
    case rel=>exact⟨k+1,Ua,Uw,HR.out,(by repeat (first|(with_reducible assumption)|refine Ja Um ?_|refine J4 ?_|refine Zw ?_)),Jb⟩
    case measure=>simp [intOf];omega
  ·have bk:k=e.sub.length:=Ua;rw [bk,Nn,Ex.sameL] at aa;have HR:=Nf aa;clear aa bk;exact Uc1
end Go.Proofs.YtdgjplldlfeolaaGreatDoor
namespace Go.Proofs.YtdgjplldlfeolaaGreatDoor
open Go.RowKit
def Ja6 (n:Int):ByteArray:=
 if n=1 then⟨#[43]⟩
 else if n=2 then⟨#[45]⟩
 else if n=3 then⟨#[42]⟩
 else if n=4 then⟨#[47]⟩
 else if n=5 then⟨#[37]⟩
 else if n=6 then⟨#[60,60]⟩
 else if n=7 then⟨#[62,62]⟩
 else if n=8 then⟨#[38]⟩
 else if n=9 then⟨#[124]⟩
 else if n=10 then⟨#[94]⟩
 else if n=11 then⟨#[61]⟩
 else if n=12 then⟨#[60,62]⟩
 else if n=13 then⟨#[60]⟩
 else if n=14 then⟨#[60,61]⟩
 else if n=15 then⟨#[62]⟩
 else if n=16 then⟨#[62,61]⟩
 else⟨#[]⟩
def brk (k:Int) (t:ByteArray):ByteArray:=if k=1\/k=2\/k=3\/k=8\/k=9 then t else⟨#[40]⟩ ++ t ++ ⟨#[41]⟩
def Ye (k n:Int) (s:ByteArray) (ts:List ByteArray):ByteArray:=
 if k=1 then Zn n
 else if k=2 then(if n=0 then⟨#[102,97,108,115,101]⟩ else⟨#[116,114,117,101]⟩)
 else if k=4 then(if n=2 then⟨#[110,111,116,32]⟩ ++ ts.getD 0 ⟨#[]⟩ else⟨#[45]⟩ ++ ts.getD 0 ⟨#[]⟩)
 else if k=5 then ts.getD 0 ⟨#[]⟩ ++ ⟨#[32]⟩ ++ Ja6 n ++ ⟨#[32]⟩ ++ ts.getD 1 ⟨#[]⟩
 else if k=6 then⟨#[105,102,32]⟩ ++ ts.getD 0 ⟨#[]⟩ ++ ⟨#[32,116,104,101,110,32]⟩ ++ ts.getD 1 ⟨#[]⟩ ++ ⟨#[32,101,108,115,101,32]⟩ ++ ts.getD 2 ⟨#[]⟩
 else if k=7 then ts.getD 0 ⟨#[]⟩ ++ ⟨#[32,45,62,32]⟩ ++ ts.getD 1 ⟨#[]⟩
 else if k=8 then ts.getD 0 ⟨#[]⟩ ++ ⟨#[32,119,104,101,110,32]⟩ ++ s
 else if k=9 then ts.getD 0 ⟨#[]⟩ ++ ⟨#[32,117,110,108,101,115,115,32]⟩ ++ s
 else if k=10 then⟨#[109,101,114,103,101,32]⟩ ++ s ++ ⟨#[32]⟩ ++ ts.getD 0 ⟨#[]⟩ ++ ⟨#[32]⟩ ++ ts.getD 1 ⟨#[]⟩
 else s
namespace Ex
mutual
def showB:Ex->ByteArray
 | mk k n s l=>Ye k n s (showL (k == 6) l)
def showL (f:Bool):List Ex->List ByteArray
 | []=>[]
 | x :: l=>(if f then showB x else brk x.kind (showB x)) :: showL f l
end
theorem showB_eq (e:Ex):e.showB=Ye e.kind e.n e.name (showL (e.kind == 6) e.sub):=by cases e;simp [showB,kind,n,name,sub]
def partB (x:Ex):ByteArray:=brk x.kind x.showB
theorem showL_map (f:Bool) (l:List Ex):showL f l=l.map fun x=>if f then x.showB else x.partB:=by
 induction l with
 | nil=>simp [showL]
 | cons x l ih=>simp [showL,ih,partB]
theorem showL_len (f:Bool) (l:List Ex):(showL f l).length=l.length:=by simp [showL_map]
end Ex
theorem Kq (a b:ByteArray):(a ++ b).size=a.size+b.size:=by simp [ByteArray.size_append]
theorem Ko (l:Array UInt8):(ByteArray.mk l).size=l.size:=rfl
theorem Jkk (k:Int) (t:ByteArray):(brk k t).size<=t.size+2:=by
 unfold brk;split
 ·exact Ua
 ·exact Up
theorem Jhr (n:Int):(Ja6 n).size<=2:=by
 unfold Ja6
 by_cases h1:n=1
 ·rw [if_pos h1];decide
 rw [if_neg h1]
 by_cases h2:n=2
 ·rw [if_pos h2];decide
 rw [if_neg h2]
 by_cases h3:n=3
 ·rw [if_pos h3];decide
 rw [if_neg h3]
 by_cases h4:n=4
 ·rw [if_pos h4];decide
 rw [if_neg h4]
 by_cases h5:n=5
 ·rw [if_pos h5];decide
 rw [if_neg h5]
 by_cases h6:n=6
 ·rw [if_pos h6];decide
 rw [if_neg h6]
 by_cases h7:n=7
 ·rw [if_pos h7];decide
 rw [if_neg h7]
 by_cases h8:n=8
 ·rw [if_pos h8];decide
 rw [if_neg h8]
 by_cases h9:n=9
 ·rw [if_pos h9];decide
 rw [if_neg h9]
 by_cases bM:n=10
 ·rw [if_pos bM];decide
 rw [if_neg bM]
 by_cases gh:n=11
 ·rw [if_pos gh];decide
 rw [if_neg gh]
 by_cases eG:n=12
 ·rw [if_pos eG];decide
 rw [if_neg eG]
 by_cases h13:n=13
 ·rw [if_pos h13];decide
 rw [if_neg h13]
 by_cases h14:n=14
 ·rw [if_pos h14];decide
 rw [if_neg h14]
 by_cases h15:n=15
 ·rw [if_pos h15];decide
 rw [if_neg h15]
 by_cases h16:n=16
 ·rw [if_pos h16];decide
 rw [if_neg h16];exact Ug
theorem Jqr (a:Int):(Zn a).size<=11:=by
 unfold Zn Jgk;rw [Ko];have:=Jog 10 a.natAbs []
 split <;> simp at this ⊢ <;> omega
theorem Jr4 {a b:Int} (h:(a == b)=true):a=b:=Vl
theorem Jgu {s:ByteArray} (h:Kz s=true\/s.toList.isEmpty=true):s.size<=16:=by
 rcases h with h|h
 ·exact Jaf h
 ·rw [ByteArray.toList_eq] at h
  have:s.data.size=0:=by
   rw [<-Array.length_toList,List.isEmpty_iff.1 h];rfl
  rw [<-ByteArray.size_data,this];omega
namespace Ex
theorem formed_sub {e x:Ex} (h:e.formed=true) (hx:x∈e.sub):x.formed=true:=by
 rw [formed_eq,Bool.and_eq_true] at h
 have:∀l:List Ex,formedL l=true->∀x∈l,x.formed=true:=by
  intro l
  induction l with
  | nil=>intro _ x hx;cases hx
  | cons y l ih=>
   intro h x hx;simp only [formedL,Bool.and_eq_true] at h
   rcases List.mem_cons.1 hx with rfl|hx
   ·exact h.1
   ·exact ih h.2 x hx
 exact this _ h.2 x hx
theorem Jp2 {k n:Int} {s:ByteArray} {len:Nat} (h:Jl k n s len=true):(len:Int)=(Jw k).1/\(Kz s=true\/s.toList.isEmpty=true):=by
 simp only [Jl,Bool.and_eq_true,Bool.or_eq_true] at h;refine⟨Jr4 h.1.1.1.1.2,?_⟩
 rcases h.2 with h2|h2
 ·have:=h.1.2;rw [h2] at this;exact .inl (by simpa using this.symm)
 ·exact .inr h2
theorem formed_kind {e:Ex} (h:e.formed=true):(e.sub.length:Int)=(Jw e.kind).1/\e.name.size<=16:=by
 rw [formed_eq,Bool.and_eq_true] at h;obtain⟨h1,h2⟩:=Jp2 h.1;exact⟨h1,Jgu h2⟩
theorem Jr5 (k n:Int) (s:ByteArray) (ts:List ByteArray) (hs:s.size<=16):(Ye k n s ts).size<=(ts.getD 0 ⟨#[]⟩).size+(ts.getD 1 ⟨#[]⟩).size+(ts.getD 2 ⟨#[]⟩).size+30:=by
 have h1:=Jqr n;have h2:=Jhr n;unfold Ye
 repeat' split
 all_goals try simp only [Kq,Ko,List.size_toArray,Nl,Nm]
 all_goals omega
theorem showB_size (e:Ex):e.formed=true->e.showB.size+2<=40 * e.size:=by
 induction e using ind with
 | h e ih=>
  intro hf;have hk:=(formed_kind hf);have hs:=Jr5 e.kind e.n e.name (showL (e.kind == 6) e.sub) hk.2;rw [<-showB_eq] at hs;rw [size_eq]
  have hl:e.sub.length<=3:=by
   have:=hk.1;unfold Jw at this
   repeat' split at this
   all_goals first|omega|(simp at this;omega)
  have hp:∀x∈e.sub,(if (e.kind == 6)=true then x.showB else x.partB).size<=40 * x.size:=by
   intro x hx;have:=ih x hx (formed_sub hf hx);have hb:=Jkk x.kind x.showB
   split
   ·exact Ua
   ·unfold partB;omega
  rw [showL_map] at hs;generalize aT:e.sub=l at hs hl hp
  match l,hl,hp with
  | [],_,_=>simp only [List.map_nil,List.getD_nil,Ko,List.size_toArray,Nm] at hs;simp only [sizeL];omega
  | [a],_,hp=>
   have ha:=hp a Uh;simp only [List.map_cons,List.map_nil,List.getD_cons_zero,List.getD_cons_succ,List.getD_nil,Ko,List.size_toArray,Nm] at hs;simp only [sizeL];omega
  | [a,b],_,hp=>
   have ha:=hp a Uh;have hb:=hp b Uh;simp only [List.map_cons,List.map_nil,List.getD_cons_zero,List.getD_cons_succ,List.getD_nil,Ko,List.size_toArray,Nm] at hs;simp only [sizeL];omega
  | [a,b,c],_,hp=>
   have ha:=hp a Uh;have hb:=hp b Uh;have hc:=hp c Uh;simp only [List.map_cons,List.map_nil,List.getD_cons_zero,List.getD_cons_succ,List.getD_nil,Ko,List.size_toArray,Nm] at hs;simp only [sizeL];omega
end Ex
end Go.Proofs.YtdgjplldlfeolaaGreatDoor
namespace Go.Proofs.YtdgjplldlfeolaaGreatDoor
open Go.RowKit Go.Sort
theorem Jtn (e:Ex):∀(A:Option Addr) (cap:Nat) (w:World),Jt w e A cap->
  Calls Tryz.prog 46 #[exV e A cap] w fun r w'=>r = .returned (.bool e.formed)/\Below w.heap.size w w':=by
 induction e using Ex.ind with
 | h e ih=>
 intro A cap w he;have hl:=he.len;unfold maxLen at hl;obtain⟨bI,aD⟩:=hl;have hv:=Ex.formed_eq e;unfold Jl at hv;unfold exV
 cases h1:(Jw e.kind).2.2.2.2
 case false=>
   simp only [h1,Bool.false_and] at hv;exact Uah
 cases h2:((e.sub.length:Int) != (Jw e.kind).1)
 case true=>
   simp only [Jgo h2,Bool.false_and,Bool.and_false] at hv;exact Uah
 cases h3:decide (e.n<(Jw e.kind).2.1)
 case true=>
   simp only [h3,Bool.false_and,Bool.and_false,Bool.not_true] at hv;exact Uah
 cases h4:decide ((Jw e.kind).2.2.1<e.n)
 case true=>
   simp only [h4,Bool.false_and,Bool.and_false,Bool.not_true] at hv;exact Uah
 replace hv:e.formed=(((Jw e.kind).2.2.2.1 == Kz e.name) && ((Jw e.kind).2.2.2.1 || e.name.toList.isEmpty) && Ex.formedL e.sub):=by
  rw [hv];simp only [h1,Jgi h2,h3,h4,Bool.not_false,Bool.true_and]
 cases h5:(Jw e.kind).2.2.2.1
 case false=>
  cases h6:Kz e.name
  case true=>
    simp only [h5,h6,Bool.false_beq,Bool.not_true,Bool.false_and] at hv;exact B0
  cases h7:e.name.toList.isEmpty
  case false=>
    simp only [h5,h6,h7,Bool.false_or,Bool.and_false,Bool.false_and] at hv;exact B0
  rw [h5,h6,h7] at hv;exact Tr
 case true=>
  cases h6:Kz e.name
  case false=>
    simp only [h5,h6,Bool.true_beq,Bool.false_and] at hv;exact B0
  rw [h5,h6] at hv;exact Tr
section
variable {P:Program} {w w':World} {base:Nat} {e:TypeId} {size n:Nat} {v:Value} {xs:List Value}
theorem Jpb (h:w.ownsRow base e size v n xs) (hb:∀k,k<w.heap.size->w'.heap[k]?=w.heap[k]?):w'.ownsRow base e size v n xs:=by
 obtain⟨h1,h2⟩:=h;refine⟨h1,?_⟩
 rcases h2 with h2|⟨g,cap,cur,hv,hg,hh,r⟩
 ·exact .inl h2
 ·refine .inr ⟨g,cap,cur,hv,hg,?_,r⟩
  have am:g<w.heap.size:=by
   rcases Nat.lt_or_ge g w.heap.size with h|h
   ·exact h
   ·rw [Array.getElem?_eq_none h] at hh;cases hh
  rw [hb g am];exact hh
theorem Jy (h:w.ownsRow base e size v n xs) (hb:Below w.heap.size w w'):w'.ownsRow base e size v n xs:=Jpb h hb.block
theorem Js (h:w.ownsRow base e size v n xs) {o:Obj} : (w.alloc o).ownsRow base e size v n xs:=h.alloc o
theorem Kp (h:w.ownsRow base e size v n xs):w.drew.ownsRow base e size v n xs:=h
theorem Kc (h:w.ownsRow base e size v n xs) (hn:0<n):∃g cap,v = .slice (some ⟨g,0,none⟩) n cap/\base<=g/\g<w.heap.size/\n<=cap/\cap<=maxLen/\∀j u,xs[j]?=some u->w.cell? ⟨g,j,none⟩=some u:=by
 have am:=h.lt;obtain⟨hx,h'⟩:=h;have h:w.ownsRow base e size v n xs:=⟨hx,h'⟩
 rcases h' with ⟨rfl,h0⟩|⟨g,cap,cur,rfl,hg,hh,h1,h2,_⟩
 ·exact Ua
 ·refine⟨g,cap,rfl,hg,(am g rfl).2,h1,h2,fun j u hj=>?_⟩;have:=h.cells rfl j u hj;have cQ:(⟨g,0,none⟩:Addr).add j=⟨g,j,none⟩:=Lr
  rwa [cQ] at this
theorem Jv (h:w.ownsRow base e size v n xs):∃A cap,v = .slice A n cap/\n<=cap/\cap<=maxLen:=by
 rcases h.2 with ⟨rfl,rfl⟩|⟨g,cap,cur,rfl,hg,hh,h1,h2,_⟩
 ·exact⟨none,0,rfl,Ns _,by simp [maxLen]⟩
 ·exact⟨_,cap,rfl,h1,h2⟩
theorem Jn {a b c:World} {B:Nat} (h:Below a.heap.size a b) (k:Below B b c) (hB:a.heap.size<=B):Below a.heap.size a c:=h.trans (k.mono hB)
theorem Kw (w:World) (c:Array Value) (t:TypeId) (j:Nat):(w.alloc (.cells c t)).cell? ⟨w.heap.size,j,none⟩=c[j]?:=cell_of_row _ _ _ _ _ _ (heap_alloc_new w _)
theorem Kap {ops:Array Oper} {rest:List Oper} {o:Oper} {a:Act} {Q:Exit->Act->World->Prop} (oL:o.guard=none) (s x:Operand) (t:TypeId)
  (ho:o.op = .call {callee:= .builtin .append,args:=#[s,x],argTypes:=#[t,t]})
  (base:Nat) (e:TypeId) (z:Value) (size bytes:Nat) (ht:P.underlying t=some (.slice e)) (hi:(P.info? e).map (fun i=>(i.zero,i.size,i.bytes))=some (some z,size,bytes))
  (gH:z.cells.size=size) (cE:0<size) (v:Value) (n:Nat) (xs:List Value) (g c:Nat) (news:List Value)
  (hs:a.eval s=v) (ae:w.ownsRow base e size v n xs)
  (hx:a.eval x = .slice (some ⟨g,0,none⟩) 1 c) (hl:news.length=size) (xy:∀j u,news[j]?=some u->w.cell? ⟨g,j,none⟩=some u) (h1:∀u∈news,u.oneCell'=true)
  (hn:n<100000000) (hb:bytes<=1000) (aK:base<=w.heap.size)
  (h:∀v' w',w'.ownsRow base e size v' (n+1) (xs ++ news)->Below base w w'->wpList P ops Q rest (a.put o.dst v') w'):wpList P ops Q (o :: rest) a w:=by
 obtain⟨i,kF,bD,af,br⟩:=info_parts hi;refine wpList_append_own w oL s x t ho base e i z size bytes ht kF bD af br gH cE v n xs hs ae ⟨g,0,none⟩ 1 c news hx (by simp [hl]) (fun j u hj=>?_) h1 Uo ?_ aK fun v' w' h2 h3 _=>?_
 ·have cQ:(⟨g,0,none⟩:Addr).add j=⟨g,j,none⟩:=Lr;rw [cQ];exact xy j u hj
 ·exact Nat.le_trans (Nat.mul_le_mul (Nat.le_of_lt_succ (by omega:n+1<100000002)) hb) Ua
 ·refine h v' w' h2 ⟨h3.os,h3.tape,h3.output,h3.size,fun k hk=>h3.block k Ua fun dz=>?_⟩;have:=(ae.lt k dz.symm).1;exact Ua
end
theorem Jnc (e:Ex) (A:Option Addr) (cap:Nat) (w:World) (he:Jt w e A cap) :
  Calls Tryz.prog 21 #[exV e A cap] w fun r w'=>r = .returned (.int .i64 e.right)/\Below w.heap.size w w':=by
 have hv:e.right=if 120<e.count 121 then 3 else if 12<e.depth then 17 else if e.formed then 0 else 4:=rfl;have fB:=fun W h=>Jt2 e A cap 121 W (he.later h) Ua Ua
 by_cases h1:120<e.count 121
 ·rw [if_pos h1] at hv;have HV:=Nf hv;clear hv;unfold exV at fB ⊢
  go_enter Tryz.func21,Tryz.ntmps21
  go_wp2_with (first|(go_at_call 44;refine mo (fB _ Jb) fun w1 ac ak af bV=>?_;(try simp at af)))
  exact Uc3
 rw [if_neg h1] at hv;have cE:=Ex.count_size e 121 Ua;have gY:=fun W h=>Juy e A cap W (he.later h) Ua;clear cE
 by_cases h2:12<e.depth
 ·rw [if_pos h2] at hv;have HV:=Nf hv;clear hv;unfold exV at fB gY ⊢
  go_enter Tryz.func21,Tryz.ntmps21
  go_wp2_with (first|(go_at_call 44;refine mo (fB _ Jb) fun w1 ac ak af bV=>?_;(try simp at af))|(go_at_call 45;refine mo (gY _ Jb) fun w1 ac ak af bV=>?_;(try simp at af)))
  exact Uc3
 rw [if_neg h2] at hv;have iC:=fun W h=>Jtn e A cap W (he.later h)
 cases h3:e.formed
 ·rw [h3,if_neg Uh] at hv;exact Bm
 ·rw [h3,if_pos rfl] at hv;exact Bm
theorem Zq:(Tryz.prog.info? 9).map (fun i=>(i.zero,i.size,i.bytes))=some (some (.string ⟨#[]⟩),1,16):=Ue
theorem Jv4 (n:Int) (w:World):Calls Tryz.prog 53 #[.int .i32 n] w fun r w'=>r = .returned (.string (Ja6 n))/\w=w':=by
 go_enter Tryz.func53,Tryz.ntmps53
 go_wp2_with fail
 all_goals (go_ret;exact⟨Kk (by simp_all [Ja6]),rfl⟩)
theorem Jyv {e:Ex} (hs:e.showB.size<=100000000) {A:Option Addr} {cap:Nat} {w:World} (he:Jt w e A cap)
  (bY:∀W,Jt W e A cap->Calls Tryz.prog 25 #[exV e A cap] W fun r w'=>r = .returned (.string e.showB)/\Below W.heap.size W w') :
  Calls Tryz.prog 51 #[exV e A cap] w fun r w'=>r = .returned (.string e.partB)/\Below w.heap.size w w':=by
 have hl:=he.len;unfold maxLen at hl;have hv:e.partB=brk e.kind e.showB:=rfl;unfold brk at hv;have az:=fun W h=>bY W (he.later h);unfold exV at az ⊢
 by_cases hk:e.kind=1\/e.kind=2\/e.kind=3\/e.kind=8\/e.kind=9
 ·rw [if_pos hk] at hv;have HV:=Nf hv;clear hv
  rcases hk with hk|hk|hk|hk|hk
  ·have k1:(e.kind == 1)=true:=Uk;exact Uaj
  ·have k1:(e.kind == 1)=false:=Uk;have k2:(e.kind == 2)=true:=Uk;exact Uaj
  ·have k1:(e.kind == 1)=false:=Uk;have k2:(e.kind == 2)=false:=Uk;have k3:(e.kind == 3)=true:=Uk;exact Uaj
  ·have k1:(e.kind == 1)=false:=Uk;have k2:(e.kind == 2)=false:=Uk;have k3:(e.kind == 3)=false:=Uk;have k8:(e.kind == 8)=true:=Uk;exact Uaj
  ·have k1:(e.kind == 1)=false:=Uk;have k2:(e.kind == 2)=false:=Uk;have k3:(e.kind == 3)=false:=Uk;have k8:(e.kind == 8)=false:=Uk;have k9:(e.kind == 9)=true:=Uk;exact Uaj
 ·rw [if_neg hk] at hv;have HV:=Nf hv;clear hv;have k1:(e.kind == 1)=false:=Ui;have k2:(e.kind == 2)=false:=Ui;have k3:(e.kind == 3)=false:=Ui;have k8:(e.kind == 8)=false:=Ui;have k9:(e.kind == 9)=false:=Ui
  go_enter Tryz.func51,Tryz.ntmps51
  go_wp2_with (first|(go_at_call 25;refine mo (az _ Jb) fun w1 ac ak af bV=>?_;(try simp at af)))
  go_ret;exact⟨Kk HV.out.symm,Jb⟩
end Go.Proofs.YtdgjplldlfeolaaGreatDoor
namespace Go.Proofs.YtdgjplldlfeolaaGreatDoor
open Go.RowKit Go.Sort Go.Maps Go.ChangeMaps Go.WideMaps
def upd (f:ByteArray->Option Int) (s:ByteArray) (v:Int):ByteArray->Option Int:=fun t=>if t.data=s.data then some v else f t
def Jz (P:Program) (k e:TypeId) (w:World) (b n:Nat) (f:ByteArray->Option Int):Prop:=
 ∃D:DataW Unit,w.ownsMap P k (plainElem P e) b n D/\Maps.IsMap D/\
  ∀s:ByteArray,Maps.has D (.string s.data.toList)=(f s).isSome/\D.atKey (.string s.data.toList) (.lit (.int .i64 0)) = .lit (.int .i64 ((f s).getD 0))
section
variable {P:Program} {k e:TypeId} {w w':World} {b n:Nat} {f:ByteArray->Option Int}
theorem Jz.made (w:World):Jz P k e (w.alloc (.map #[] 0)) w.heap.size 0 (fun _=>none):=
 ⟨.map [],World.ownsMap_made w P k _,isMap_empty,fun s=>⟨rfl,rfl⟩⟩
theorem Jz.keep (h:Jz P k e w b n f) (hb:∀k,k<w.heap.size->w'.heap[k]?=w.heap[k]?):Jz P k e w' b n f:=by
 obtain⟨D,h1,h2,h3⟩:=h;have am:=h1.lt;obtain⟨es,clock,hh,F,hs,hD⟩:=h1;exact⟨D,⟨es,clock,(hb b am).trans hh,F,hs,hD⟩,h2,h3⟩
theorem Jz.lt (h:Jz P k e w b n f):b<w.heap.size:=by
 exact Ub7
theorem Jz.bel (h:Jz P k e w b n f) (hb:Below w.heap.size w w'):Jz P k e w' b n f:=h.keep hb.block
theorem Jz.alloc (h:Jz P k e w b n f) {o:Obj} : Jz P k e (w.alloc o) b n f:=h.bel (Jc (Nt) o)
theorem Jz.drew (h:Jz P k e w b n f):Jz P k e w.drew b n f:=h
theorem Qb {ops:Array Oper} {rest:List Oper} {o:Oper} {a:Act} {Q:Exit->Act->World->Prop} (hg:o.guard=none) (m x:Operand) (t:TypeId) (jf:o.op=Op.lookup t m x false)
  (hk:P.underlying k=some .string) (ht:P.underlying t=some (.map k e)) (he:P.underlying e=some (.int .i64)) (hz:(zeroValue e).run P w = .ok (.int .i64 0) w)
  (b n:Nat) (f:ByteArray->Option Int) (s:ByteArray) (hm:a.eval m = .map (some b)) (ae:Jz P k e w b n f) (hx:a.eval x = .string s) (hs:s.size<=maxLen)
  (hK:wpList P ops Q rest (a.put o.dst (.int .i64 ((f s).getD 0))) w):wpList P ops Q (o :: rest) a w:=by
 obtain⟨D,h1,h2,h3⟩:=ae;refine wpList_lookup_own_int w hg m x t jf k e .i64 (string_keyed hk) ht he hz b n D hm h1 _ _ hx (keyOf_string_mk hk hs) fun c hc _=>?_;rw [(h3 s).2] at hc;have:(f s).getD 0=c:=by injection hc with hc;injection hc
 rw [<-this];exact hK
theorem Qh {ops:Array Oper} {rest:List Oper} {o:Oper} {a:Act} {Q:Exit->Act->World->Prop} (hg:o.guard=none) (m x:Operand) (t:TypeId) (jf:o.op=Op.lookup t m x true)
  (hk:P.underlying k=some .string) (ht:P.underlying t=some (.map k e)) (he:P.underlying e=some (.int .i64)) (hz:(zeroValue e).run P w = .ok (.int .i64 0) w)
  (b n:Nat) (f:ByteArray->Option Int) (s:ByteArray) (hm:a.eval m = .map (some b)) (ae:Jz P k e w b n f) (hx:a.eval x = .string s) (hs:s.size<=maxLen)
  (hK:wpList P ops Q rest (a.put o.dst (.tuple #[.int .i64 ((f s).getD 0),.bool (f s).isSome])) w):wpList P ops Q (o :: rest) a w:=by
 obtain⟨D,h1,h2,h3⟩:=ae;refine wpList_lookup_own_ok_int w hg m x t jf k e .i64 (string_keyed hk) ht he hz b n D hm h1 _ _ hx (keyOf_string_mk hk hs) fun c hc _=>?_;rw [(h3 s).2] at hc;have:(f s).getD 0=c:=by injection hc with hc;injection hc
 rw [<-this,(h3 s).1];exact hK
theorem Jau {ops:Array Oper} {rest:List Oper} {o:Oper} {a:Act} {Q:Exit->Act->World->Prop} (hg:o.guard=none) (m x v:Operand) (t:TypeId) (jf:o.op=Op.mapUpdate t m x v)
  (hk:P.underlying k=some .string) (ht:P.underlying t=some (.map k e)) (he:P.underlying e=some (.int .i64))
  (b n:Nat) (f:ByteArray->Option Int) (s:ByteArray) (i:Int) (hm:a.eval m = .map (some b)) (ae:Jz P k e w b n f) (hn:n<1000000000) (hx:a.eval x = .string s) (hv:a.eval v = .int .i64 i)
  (hs:s.size<=maxLen) (hi : -9223372036854775808<=i/\i<=9223372036854775807)
  (hK:∀w',Jz P k e w' b (n+1) (upd f s i)->w.grownBy w' (some b)->wpList P ops Q rest (a.put o.dst undef) w'):wpList P ops Q (o :: rest) a w:=by
 obtain⟨D,h1,h2,h3⟩:=ae;refine wpList_mapUpdate_own w hg m x v t jf k e (string_keyed hk) ht _ b n D hm h1 Uo _ _ _ hx hv (keyOf_string_mk hk hs) _ [] (plainElem_int he (WalkArith.wf_i64 hi)) fun w' h4 h5=>hK w' ⟨_,h4,?_,fun t=>?_⟩ h5
 ·exact h2.put _ _
 ·by_cases aU:t.data=s.data
  ·have dz:WideAt.IsKeyLit (.string s.data.toList):=by trivial
   rw [aU,has_put_same h2 dz,atKey_put_same h2 dz];simp [upd,aU]
  ·exact Uai
end
end Go.Proofs.YtdgjplldlfeolaaGreatDoor
namespace Go.Proofs.YtdgjplldlfeolaaGreatDoor
open Go.RowKit Go.Sort
def X6 (w:World) (A:Option Addr) (m size:Nat) (news:List Value):Prop:=
 news.length=m * size/\(0<m->∃b off,A=some ⟨b,off,none⟩/\∀j u,news[j]?=some u->w.cell? ⟨b,off+j,none⟩=some u)
section
variable {P:Program} {w:World}
theorem Jju (base:Nat) (t ty e:TypeId) (i:TypeInfo) (size:Nat) (ht:P.underlying t=some (.slice e)) (hi:P.info? e=some i) (v:Value) (n:Nat) (xs:List Value) (ae:w.ownsRow base e size v n xs) (c:Nat) :
  (Builtin.append_ #[t,t] ty #[v,.slice none 0 c]).run P w = .ok v w:=by
 rcases ae.2 with ⟨rfl,rfl⟩|⟨g,cap,cur,rfl,_,_,xz,_⟩
 ·simp [Builtin.append_,run_underlying ht,sizeOf,typeInfo,hi,Builtin.lenOf,Builtin.firstCells]
 ·simp [Builtin.append_,run_underlying ht,sizeOf,typeInfo,hi,Builtin.lenOf,Builtin.firstCells,xz,storeCells]
theorem Jxt (base:Nat) (t ty e:TypeId) (z:Value) (size bytes:Nat) (ht:P.underlying t=some (.slice e)) (hi:(P.info? e).map (fun i=>(i.zero,i.size,i.bytes))=some (some z,size,bytes))
  (gH:z.cells.size=size) (cE:0<size) (v:Value) (n:Nat) (xs:List Value) (ae:w.ownsRow base e size v n xs) (A:Option Addr) (m c:Nat) (news:List Value)
  (hc:X6 w A m size news) (h1:∀u∈news,u.oneCell'=true) (hn:n+m<=100000000) (hb:bytes<=1000) (aK:base<=w.heap.size) :
  ∃v' w',(Builtin.append_ #[t,t] ty #[v,.slice A m c]).run P w = .ok v' w'/\w'.ownsRow base e size v' (n+m) (xs ++ news)/\Below base w w':=by
 obtain⟨i,kF,bD,af,br⟩:=info_parts hi;obtain⟨hl,ah⟩:=hc
 have main:∀ad,A=some ad->(∀j u,news[j]?=some u->w.cell? (ad.add j)=some u)->∃v' w',(Builtin.append_ #[t,t] ty #[v,.slice A m c]).run P w = .ok v' w'/\w'.ownsRow base e size v' (n+m) (xs ++ news)/\Below base w w':=by
  rintro ad rfl hj;obtain⟨v',w',hr,h2,h3,_⟩:=run_append_own w base t ty e i z size bytes ht kF bD af br gH cE v n xs ae ad m c news hl hj h1 Uo (Nat.le_trans (Nat.mul_le_mul hn hb) Ua) aK;refine⟨v',w',hr,h2,⟨h3.os,h3.tape,h3.output,h3.size,fun k hk=>h3.block k Ua fun dz=>?_⟩⟩;have:=(ae.lt k dz.symm).1;exact Ua
 rcases Nat.eq_zero_or_pos m with rfl|hm
 ·have:news = []:=List.eq_nil_of_length_eq_zero (by simpa using hl);subst this
  cases A with
  | none=>exact⟨v,w,Jju base t ty e i size ht kF v n xs ae c,by simpa using ae,Nt⟩
  | some ad=>exact main ad rfl (fun j u hj=>by simp at hj)
 ·obtain⟨b,off,rfl,hj⟩:=ah hm;refine main _ rfl fun j u hu=>?_;have cQ:(⟨b,off,none⟩:Addr).add j=⟨b,off+j,none⟩:=Lr;rw [cQ];exact hj j u hu
theorem Jur {o:Oper} {a:Act} {K:Act->World->Prop} {Q:Exit->Act->World->Prop} (s x:Operand) (t:TypeId)
  (ho:o.op = .call {callee:= .builtin .append,args:=#[s,x],argTypes:=#[t,t]})
  (base:Nat) (e:TypeId) (z:Value) (size bytes:Nat) (ht:P.underlying t=some (.slice e)) (hi:(P.info? e).map (fun i=>(i.zero,i.size,i.bytes))=some (some z,size,bytes))
  (gH:z.cells.size=size) (cE:0<size) (v:Value) (n:Nat) (xs:List Value) (A:Option Addr) (m c:Nat) (news:List Value) (hs:a.eval s=v) (ae:w.ownsRow base e size v n xs)
  (hx:a.eval x = .slice A m c) (hc:X6 w A m size news) (h1:∀u∈news,u.oneCell'=true) (hn:n+m<=100000000) (hb:bytes<=1000) (aK:base<=w.heap.size)
  (h:∀v' w',w'.ownsRow base e size v' (n+m) (xs ++ news)->Below base w w'->K (a.put o.dst v') w'):o.wp P a w K Q:=by
 obtain⟨v',w',hr,h2,h3⟩:=Jxt (P:=P) base t o.type e z size bytes ht hi gH cE v n xs ae A m c news hc h1 hn hb aK;unfold Oper.wp execOp;simp only [ho,resolve,invoke,builtin,Sem.run_bind,Sem.run_pure,Result.andThen_ok,List.map_toArray,List.map_cons,List.map_nil,hs,hx,hr];exact h v' w' h2 h3
theorem K6 {ops:Array Oper} {rest:List Oper} {o:Oper} {a:Act} {Q:Exit->Act->World->Prop} (oL:o.guard=none) (s x:Operand) (t:TypeId)
  (ho:o.op = .call {callee:= .builtin .append,args:=#[s,x],argTypes:=#[t,t]})
  (base:Nat) (e:TypeId) (z:Value) (size bytes:Nat) (ht:P.underlying t=some (.slice e)) (hi:(P.info? e).map (fun i=>(i.zero,i.size,i.bytes))=some (some z,size,bytes))
  (gH:z.cells.size=size) (cE:0<size) (v:Value) (n:Nat) (xs:List Value) (A:Option Addr) (m c:Nat) (news:List Value) (hs:a.eval s=v) (ae:w.ownsRow base e size v n xs)
  (hx:a.eval x = .slice A m c) (hc:X6 w A m size news) (h1:∀u∈news,u.oneCell'=true) (hn:n+m<=100000000) (hb:bytes<=1000) (aK:base<=w.heap.size)
  (h:∀v' w',w'.ownsRow base e size v' (n+m) (xs ++ news)->Below base w w'->wpList P ops Q rest (a.put o.dst v') w'):wpList P ops Q (o :: rest) a w:=
 wpList_plain oL fun _ hK=>Jur s x t ho base e z size bytes ht hi gH cE v n xs A m c news hs ae hx hc h1 hn hb aK fun v' w' h2 h3=>hK _ _ (h v' w' h2 h3)
theorem Jg1 {ops:Array Oper} {o:Oper} {a:Act} {K:Act->World->Prop} {Q:Exit->Act->World->Prop} {E:Prop} (oL:o.guard=none) (s x:Operand) (t:TypeId)
  (ho:o.op = .call {callee:= .builtin .append,args:=#[s,x],argTypes:=#[t,t]})
  (base:Nat) (e:TypeId) (z:Value) (size bytes:Nat) (ht:P.underlying t=some (.slice e)) (hi:(P.info? e).map (fun i=>(i.zero,i.size,i.bytes))=some (some z,size,bytes))
  (gH:z.cells.size=size) (cE:0<size) (v:Value) (n:Nat) (xs:List Value) (A:Option Addr) (m c:Nat) (news:List Value) (hs:a.eval s=v) (ae:w.ownsRow base e size v n xs)
  (hx:a.eval x = .slice A m c) (hc:X6 w A m size news) (h1:∀u∈news,u.oneCell'=true) (hn:n+m<=100000000) (hb:bytes<=1000) (aK:base<=w.heap.size)
  (h:∀v' w',w'.ownsRow base e size v' (n+m) (xs ++ news)->Below base w w'->K (a.put o.dst v') w'):if Region.wanted o (yielded ops a.tmps)=true then Oper.wp P o a w K Q else E:=by
 have hw:Region.wanted o (yielded ops a.tmps)=true:=by simp [Region.wanted,oL]
 rw [if_pos hw];exact Jur s x t ho base e z size bytes ht hi gH cE v n xs A m c news hs ae hx hc h1 hn hb aK h
end
def vaC (v:Va):List Value:=[.string v.name,.int .i64 v.type,.int .i64 v.ck,.string v.cn]
def Xe (l:List Va):List Value:=l.flatMap vaC
theorem Jwi (l:List Va):(Xe l).length=l.length * 4:=by
 induction l with
 | nil=>rfl
 | cons v l ih=>rw [Xe,List.flatMap_cons,Nk,<-Xe,ih];simp [vaC];omega
theorem Jor:∀(l:List Va) (j:Nat) (u:Value),(Xe l)[j]?=some u->∃v,l[j / 4]?=some v/\(vaC v)[j % 4]?=some u
 | [],j,u,h=>by simp [Xe] at h
 | v :: l,j,u,h=>by
  rw [Xe,List.flatMap_cons,<-Xe] at h
  rcases Nat.lt_or_ge j 4 with hj|hj
  ·rw [List.getElem?_append_left (by simpa [vaC] using hj)] at h;refine⟨v,?_,?_⟩
   ·rw [Nat.div_eq_of_lt hj];rfl
   ·rw [Nat.mod_eq_of_lt hj];exact h
  ·rw [List.getElem?_append_right (by simpa [vaC] using hj)] at h;have ai:(vaC v).length=4:=rfl;rw [ai] at h;obtain⟨x,h1,h2⟩:=Jor l (j-4) u h;refine⟨x,?_,?_⟩
   ·rw [show j / 4=(j-4) / 4+1 from by omega];simpa using h1
   ·rw [show j % 4=(j-4) % 4 from by omega];exact h2
theorem Jrh (l:List Va) (k:Nat) (v:Va) (h:l[k]?=some v) (i:Nat) (u:Value) (hu:(vaC v)[i]?=some u):(Xe l)[k * 4+i]?=some u:=by
 induction l generalizing k with
 | nil=>simp at h
 | cons x l ih=>
  rw [Xe,List.flatMap_cons,<-Xe]
  have hi:i<4:=by
   have:=(Nh hu).1;simpa [vaC] using this
  cases k with
  | zero=>
   simp at h;subst h;rw [List.getElem?_append_left (by simp [vaC];omega)];simpa using hu
  | succ k=>
   rw [List.getElem?_append_right (by simp [vaC];omega)];have ai:(vaC x).length=4:=rfl;rw [ai,show(k+1) * 4+i-4=k * 4+i from by omega];exact ih k Vl
theorem Jbg (l:List Va):∀u∈Xe l,u.oneCell'=true:=by
 intro u hu;obtain⟨v,_,hv⟩:=List.mem_flatMap.1 hu;simp [vaC] at hv
 rcases hv with rfl|rfl|rfl|rfl <;> rfl
theorem Ju.cells {w:World} {l:List Va} {A:Option Addr} {cap:Nat} (h:Ju w l A cap):X6 w A l.length 4 (Xe l):=by
 refine⟨Jwi l,fun hl=>?_⟩;obtain⟨b,off,hA,hr⟩:=h.2.2 hl;refine⟨b,off,hA,fun j u hj=>?_⟩;obtain⟨v,h1,h2⟩:=Jor l j u hj;obtain⟨d0,d1,d2,d3⟩:=hr _ _ h1;have fb:off+j=off+j / 4 * 4+j % 4:=Ua;rw [fb];have hm:j % 4<4:=Nat.mod_lt _ Ua;generalize j % 4=i at h2 hm
 match i,hm,h2 with
 | 0,_,h2=>simp [vaC] at h2;subst h2;exact d0
 | 1,_,h2=>simp [vaC] at h2;subst h2;exact d1
 | 2,_,h2=>simp [vaC] at h2;subst h2;exact d2
 | 3,_,h2=>simp [vaC] at h2;subst h2;exact d3
theorem Ju.of_own {w:World} {base:Nat} {e:TypeId} {l:List Va} {A:Option Addr} {cap:Nat} (h:w.ownsRow base e 4 (.slice A l.length cap) l.length (Xe l)):Ju w l A cap:=by
 rcases Nat.eq_zero_or_pos l.length with h0|h0
 ·exact Ubk
 ·obtain⟨g,c',hv,_,_,h1,h2,hc⟩:=Kc h h0;injection hv with e1 e2 e3;subst e1 e3;refine⟨h1,h2,fun _=>⟨g,0,rfl,fun k v hk=>?_⟩⟩;have ha:=fun i u hu=>hc _ _ (Jrh l k v hk i u hu);exact Ub1
theorem Kj (w:World):(zeroValue 3).run Tryz.prog w = .ok (.int .i64 0) w:=Ue
end Go.Proofs.YtdgjplldlfeolaaGreatDoor
namespace Go.Proofs.YtdgjplldlfeolaaGreatDoor
open Go.RowKit
def Xf:List Va->ByteArray->Int->Option Int
 | [],_,_=>none
 | v :: l,s,i=>if s.data=v.name.data then some i else Xf l s (i+1)
theorem Jli:∀ {l:List Va} {s:ByteArray} {i j:Int},Xf l s i=some j->∃k v,j=i+(k:Nat)/\l[k]?=some v/\v.name=s
 | [],_,_,_,h=>by simp [Xf] at h
 | v :: l,s,i,j,h=>by
  unfold Xf at h
  split at h
  ·rename_i hs;simp at h;exact⟨0,v,by simp [h],rfl,by ext1;exact hs.symm⟩
  ·obtain⟨k,u,h1,h2,h3⟩:=Jli h;exact⟨k+1,u,Ua,Lw,h3⟩
def Qi (l:List Va) (s:ByteArray):Option Int:=Xf l s 0
theorem Zi {l:List Va} {s:ByteArray} {j:Int} (h:Qi l s=some j):∃(k:Nat) (v:Va),j=k/\l[k]?=some v/\v.name=s:=by
 obtain⟨k,v,h1,h2,h3⟩:=Jli h;exact⟨k,v,Ua,h2,h3⟩
def K7 (l:List Va) (s:ByteArray):Int×Bool:=
 match Qi l s with
 | none=>(0,false)
 | some j=>(match l[j.toNat]? with|some v=>v.type|none=>0,true)
def Jcg (op t:Int):Int×Bool:=
 if op=8\/op=9\/op=10 then(t,true)
 else if op=11\/op=12 then(2,true)
 else if op=13\/op=14\/op=15\/op=16 then(2,t == 1)
 else(1,t == 1)
def Je3 (k n named:Int) (ts:List Int):Int×Bool:=
 if k=1 then(1,true)
 else if k=2 then(2,true)
 else if k=3 then(named,true)
 else if k=4 then(ts.getD 0 0,(ts.getD 0 0 == 1 && n == 1) || (ts.getD 0 0 == 2 && n == 2))
 else if k=5 then((Jcg n (ts.getD 0 0)).1,(Jcg n (ts.getD 0 0)).2 && ts.getD 0 0 == ts.getD 1 0)
 else if k=6 then(ts.getD 1 0,ts.getD 0 0 == 2 && ts.getD 1 0 == ts.getD 2 0)
 else if k=7 then(ts.getD 0 0,ts.getD 0 0 == ts.getD 1 0)
 else if k=8\/k=9 then(ts.getD 0 0,named == 2)
 else if k=10 then(ts.getD 0 0,named == 2 && ts.getD 0 0 == ts.getD 1 0)
 else(0,true)
def Jbl (out:Int) (ok:Bool):Int×Int:=if ok=true/\(out=1\/out=2) then(out,0) else(0,20)
def Y2 (l:List Va) (k n:Int) (s:ByteArray) (ts:List Int):Int×Int:=
 if s.toList.isEmpty=false/\(K7 l s).2=false then(0,19) else Jbl (Je3 k n (K7 l s).1 ts).1 (Je3 k n (K7 l s).1 ts).2
def Ku (acc:List Int) (r:List Int×Int):List Int×Int:=if r.2=0 then(acc ++ r.1,0) else([],r.2)
namespace Ex
mutual
def typ (l:List Va):Ex->Int×Int
 | mk k n s sub=>if (typL l sub).2=0 then Y2 l k n s (typL l sub).1 else(0,(typL l sub).2)
def typL (l:List Va):List Ex->List Int×Int
 | []=>([],0)
 | x :: r=>if (typ l x).2=0 then Ku [(typ l x).1] (typL l r) else([],(typ l x).2)
end
theorem typ_eq (l:List Va) (e:Ex):e.typ l=if (typL l e.sub).2=0 then Y2 l e.kind e.n e.name (typL l e.sub).1 else(0,(typL l e.sub).2):=by cases e;rw [typ];rfl
end Ex
theorem Xq (r:List Int×Int) (h:r.2≠0->r.1 = []):Ku [] r=r:=by
 unfold Ku
 split
 ·simp;ext1 <;> simp [*]
 ·rename_i h2;ext1 <;> simp [h h2]
theorem Yb (l:List Va) (sub:List Ex):(Ex.typL l sub).2≠0->(Ex.typL l sub).1 = []:=by
 cases sub with
 | nil=>simp [Ex.typL]
 | cons x r=>
  simp only [Ex.typL,Ku]
  repeat' split
  all_goals simp_all
theorem Yl (l:List Va) (acc:List Int) (x:Ex) (r:List Ex) (h:(x.typ l).2=0):Ku acc (Ex.typL l (x :: r))=Ku (acc ++ [(x.typ l).1]) (Ex.typL l r):=by
 simp only [Ex.typL,if_pos h,Ku]
 repeat' split
 all_goals simp_all
theorem Yk (l:List Va) (acc:List Int) (x:Ex) (r:List Ex) (h:(x.typ l).2≠0):Ku acc (Ex.typL l (x :: r))=([],(x.typ l).2):=by
 simp only [Ex.typL,if_neg h,Ku]
theorem Jj4 (l:List Va):∀sub:List Ex,(Ex.typL l sub).2=0->(Ex.typL l sub).1.length=sub.length
 | [],_=>by simp [Ex.typL]
 | x :: r,h=>by
  have ih:=Jj4 l r;simp only [Ex.typL,Ku] at h ⊢
  repeat' split at h
  all_goals simp_all
def Je (p:Pr):List Va:=p.ins ++ p.outs ++ p.locals
end Go.Proofs.YtdgjplldlfeolaaGreatDoor
namespace Go.Proofs.YtdgjplldlfeolaaGreatDoor
open Go.RowKit Go.Sort
theorem Jiz (a b:Int) (w:World) :
  Calls Tryz.prog 150 #[.int .i32 a,.int .i64 b] w fun e w'=>e = .returned (.tuple #[.int .i64 (Jcg a b).1,.bool (Jcg a b).2])/\w=w':=by
 go_enter Tryz.func150,Tryz.ntmps150
 go_wp2_with fail
 all_goals (go_ret2;exact⟨by simp_all [Jcg],rfl⟩)
def Jfs (l:List Va) (k:Nat):ByteArray->Option Int:=fun s=>Xf (l.drop k) s k
theorem Jse {l:List Va} {k:Nat} {v:Va} (h:l[k]?=some v):upd (Jfs l (k+1)) v.name k=Jfs l k:=by
 funext s
 unfold upd Jfs;have am:k<l.length:=(Nh h).1
 have hd:l.drop k=v :: l.drop (k+1):=by
  rw [No am];have:l[k]=v:=(Nh h).2;rw [this]
 rw [hd,Xf];exact Gp
theorem Jvv (n:Int) (w:World):(Instr.makeMap 177 (some (.int .i64 n))).run Tryz.prog w = .ok (.map (some w.heap.size)) (w.alloc (.map #[] 0)):=by
 have hu:Tryz.prog.underlying 177=some (.map 9 3):=Tryz.underlying177;simp only [Instr.makeMap,Sem.run_bind,run_underlying hu,Result.andThen];exact Gp
theorem Jnu {w a b:World} {g:Nat} (h:Below w.heap.size w a) (hg:a.grownBy b (some g)) (hw:w.heap.size<=g):Below w.heap.size w b:=
 h.grown hg h.size (fun k hk=>Db)
theorem Jtr (l:List Va) (A:Option Addr) (cap:Nat) (hs:∀v∈l,v.name.size<=maxLen) (hn:l.length<=1000000) (w:World) (hl:Ju w l A cap) :
  Calls Tryz.prog 138 #[.slice A l.length cap] w fun r w'=>(∃B,r = .returned (.map (some B))/\w.heap.size<=B/\Jz Tryz.prog 9 3 w' B l.length (Qi l))/\Below w.heap.size w w':=by
 have aD:=hl.len;unfold maxLen at aD;obtain⟨fD,cG⟩:=aD;have jH:=Jvv (l.length:Int);have cP:Jfs l l.length=fun _=>none:=by funext s;simp [Jfs,Xf]
 have cJ:=Nf cP;clear cP
 go_enter Tryz.func138,Tryz.ntmps138
 go_wp2_with fail
 go_loopw [4] (fun i wr=>∃k:Nat,k<=l.length/\i = .int .i64 ((k:Int)-1)/\Jz Tryz.prog 9 3 wr w.heap.size (l.length-k) (Jfs l k)/\Below w.heap.size w wr) (fun i _=>(intOf i+1).toNat)
 case atStart=>exact⟨l.length,Ns _,rfl,by rw [cJ.out,Nat.sub_self];exact Jz.made w,Jb⟩
 case round=>
  obtain⟨k,hk,rfl,hm,ab⟩:=hrel
  by_cases am:0<k
  ·obtain⟨j,rfl⟩:∃j,k=j+1:=⟨k-1,Ua⟩;have mX:j<l.length:=Ua;have hx:l[j]?=some l[j]:=Ng mX;generalize l[j]=x at hx;obtain⟨b,off,rfl,aH,⟨d0,d1,d2,d3⟩⟩:=(hl.later ab).get hx;have cE:=hs x (Ni hx);have sP:=Jse hx;have zj:=Nf sP;clear sP hx;have wP:((j+1:Nat):Int)-1=j:=Ua;rw [wP];have nn:(0:Int)<=j:=Ua
   go_wp2_with (at_mapUpdate;refine Jau rfl (.tmp 15) (.tmp 20) (.tmp 21) 177 rfl Tryz.underlying9 Tryz.underlying177 Tryz.underlying3 w.heap.size _ _ x.name j rfl hm Ua rfl rfl cE Ua ?_;intro w2 cI aG)
   rw [zj.out] at cI
   go_wp2_with fail
   go_roundw
   case rel=>exact⟨j,Ua,by first|rfl|go_num,by rw [show l.length-j=l.length-(j+1)+1 from by omega];exact cI,Jnu ab aG (Ns _)⟩
   case measure=>first|(simp [intOf];done)|(simp [intOf];omega)
  ·obtain rfl:k=0:=Ua;have hf:Jfs l 0=Qi l:=by funext s;simp [Jfs,Qi]
   rw [hf,Nat.sub_zero] at hm
   go_wp2_with fail
   go_ret;exact⟨⟨w.heap.size,rfl,Ns _,hm⟩,ab⟩
theorem Jqk (e:Ex) (A:Option Addr) (cap:Nat) (w:World) (he:Jt w e A cap) :
  Calls Tryz.prog 49 #[exV e A cap] w fun r w'=>r = .returned (.bool e.literal)/\Below w.heap.size w w':=by
 have hl:=he.len;unfold maxLen at hl;obtain⟨bI,aD⟩:=hl;have hv:e.literal=if e.right=0 then(if e.kind=4/\e.n=1 then(match e.sub with|x :: _=>x.kind == 1 | []=>false) else(e.kind == 1 || e.kind == 2)) else false:=rfl;have aB:=fun W h=>Jnc e A cap W (he.later h);unfold exV at aB ⊢
 cases h1:(e.right != 0)
 case true=>
  rw [if_neg (by intro h;rw [h] at h1;simp at h1)] at hv;have HV:=Nf hv;clear hv
  go_enter Tryz.func49,Tryz.ntmps49
  go_wp2_with (first|(go_at_call 21;refine mo (aB _ Jb) fun w1 ac ak af bV=>?_;(try simp at af)))
  go_ret;exact⟨Jk HV.out.symm,Jb⟩
 have eV:=Jei h1;rw [if_pos eV] at hv
 cases h2:(e.kind == 4)
 case false=>
  rw [if_neg (by rintro⟨h,_⟩;rw [h] at h2;simp at h2)] at hv
  cases h3:(e.kind == 1)
  case true=>
   rw [h3,Bool.true_or] at hv;exact Uab
  rw [h3,Bool.false_or] at hv;exact Uab
 have iA:=Jbf h2
 cases h4:(e.n == 1)
 case false=>
  rw [if_neg (by rintro⟨_,h⟩;rw [h] at h4;simp at h4),iA] at hv;clear eV iA;have h5:(e.kind == 1)=false:=by rw [Jbf h2];rfl
  replace hv:e.literal=false:=by rw [hv];rfl
  have HV:=Nf hv;clear hv
  go_enter Tryz.func49,Tryz.ntmps49
  go_wp2_with (first|(go_at_call 21;refine mo (aB _ Jb) fun w1 ac ak af bV=>?_;(try simp at af)))
  go_ret;exact⟨Jk (by rw [HV.out,Jbf h2];rfl),Jb⟩
 rw [if_pos ⟨iA,Jbf h4⟩] at hv;have hf:=(Ex.right_zero.1 eV).2.2;rw [Ex.formed_eq,Jl,iA] at hf
 have ai:e.sub.length=1:=by
  simp only [Jw,Bool.and_eq_true] at hf;have:=Jbf hf.1.1.1.1.1.2;simp at this;omega
 clear hf;have hx:e.sub[0]?=some e.sub[0]:=Ng Ua;generalize e.sub[0]=x at hx
 have aT:e.sub = [x]:=by
  generalize e.sub=l at ai hx
  match l,ai,hx with
  | [y],_,h=>simp at h;rw [h]
 rw [aT] at hv;obtain⟨b,off,A',cap',rfl,c0,c1,c2,c3,hs⟩:=he.get hx;have ax:=Nu c0;dsimp only at ax;have hb0':b<w.heap.size+1:=Ua;have oo:0<e.sub.length:=Ua;simp only [Nat.zero_mul,Nat.add_zero] at c0;clear eV iA hx ai c1 c2 c3;have HS:=Nf aT;clear aT;have HV:=Nf hv;clear hv
 go_enter Tryz.func49,Tryz.ntmps49
 go_wp2_with (first|(go_at_call 21;refine mo (aB _ Jb) fun w1 ac ak af bV=>?_;(try simp at af)))
 go_ret;exact⟨Jk HV.out.symm,Jb⟩
theorem Je0 (v:Va) (own:Bool) (w:World) :
  Calls Tryz.prog 48 #[vaV v,.bool own] w fun r w'=>r = .returned (.bool (Ke v own))/\Below w.heap.size w w':=by
 unfold Ke vaV
 cases h1:Kz v.name
 ·go_enter Tryz.func48,Tryz.ntmps48
  go_wp2_with (first|(go_at_call 47;refine mo (Qt _ _) fun w1 ac ak af bV=>?_;(try simp at af)))
  all_goals (go_ret;exact⟨Jk rfl,Jb⟩)
 cases h2:Kz v.cn <;> cases own <;>
 ·go_enter Tryz.func48,Tryz.ntmps48
  go_wp2_with (first|(go_at_call 47;refine mo (Qt _ _) fun w1 ac ak af bV=>?_;(try simp at af)))
  all_goals (first|(exfalso;simp_all;done)|(go_ret;exact⟨Jk (by simp_all),Jb⟩)|go_ways)
end Go.Proofs.YtdgjplldlfeolaaGreatDoor
namespace Go.Proofs.YtdgjplldlfeolaaGreatDoor
open Go.RowKit
def Xb:List Va->ByteArray->Option Va
 | [],_=>none
 | v :: l,s=>if (v.name.toList == s.toList)=true then some v else Xb l s
def K9 (a:Int) (s:ByteArray) (b:Int) (t:ByteArray):Bool:=a == b && s.toList == t.toList
def Jaw (l:List Va) (s:ByteArray) (ok:Bool):Int:=
 match Xb l s with
 | none=>19
 | some v=>if (ok && K9 v.ck v.cn 0 ⟨#[]⟩)=true then 0 else 21
def Jac (l:List Va) (k:Int) (s:ByteArray) (ck:Int) (cn:ByteArray):Int:=
 if k=3 then(match Xb l s with
  | none=>19
  | some v=>if K9 v.ck v.cn ck cn=true then 0 else 21)
 else if k=8 then Jaw l s (K9 ck cn 1 s)
 else if k=9 then Jaw l s (K9 ck cn 2 s)
 else if k=10 then Jaw l s (K9 ck cn 0 ⟨#[]⟩)
 else 0
def Jb3 (k:Int) (s:ByteArray) (c:Int×ByteArray):Int×ByteArray:=if k=8\/k=9 then(0,⟨#[]⟩) else if k=10 then(1,s) else c
def Ja0 (k:Int) (s:ByteArray) (c:Int×ByteArray):Int×ByteArray:=if k=8\/k=9 then(0,⟨#[]⟩) else if k=10 then(2,s) else c
namespace Ex
mutual
def clk (l:List Va):Ex->Int×ByteArray->Int
 | mk k _ s sub,c=>if Jac l k s c.1 c.2≠0 then Jac l k s c.1 c.2 else clkL l sub (Jb3 k s c) (Ja0 k s c)
def clkL (l:List Va):List Ex->Int×ByteArray->Int×ByteArray->Int
 | [],_,_=>0
 | x :: r,c,d=>if clk l x c≠0 then clk l x c else clkL l r d c
end
theorem clk_eq (l:List Va) (e:Ex) (c:Int×ByteArray):e.clk l c=if Jac l e.kind e.name c.1 c.2≠0 then Jac l e.kind e.name c.1 c.2 else clkL l e.sub (Jb3 e.kind e.name c) (Ja0 e.kind e.name c):=by cases e;rw [clk];rfl
end Ex
def Yc (l:List Va) (v:Va):Int:=
 if K9 v.ck v.cn 0 ⟨#[]⟩=true then 0
 else match Xb l v.cn with
  | none=>19
  | some c=>if c.type≠2 then 20 else if K9 c.ck c.cn 0 ⟨#[]⟩=true then 0 else 21
theorem Jdg {a b:Int} {s t:ByteArray} : K9 a s b t=true<->a=b/\s.toList=t.toList:=by
 unfold K9;simp
namespace Ex
end Ex
theorem Jjj:∀ {l:List Ex},Ex.formedL l=true->∀x∈l,x.formed=true
 | [],_,x,hx=>by cases hx
 | y :: l,h,x,hx=>by
  simp only [Ex.formedL,Bool.and_eq_true] at h
  rcases List.mem_cons.1 hx with rfl|hx
  ·exact h.1
  ·exact Jjj h.2 x hx
theorem Q9 {e:Ex} (h:e.formed=true):∀x∈e.sub,x.formed=true:=by
 rw [Ex.formed_eq,Bool.and_eq_true] at h;exact Jjj h.2
theorem Jfj {e:Ex} (h:e.formed=true) (hk:e.kind=10):e.sub.length=2:=by
 exact Ube
theorem Jbx {s:ByteArray} (h:Kz s=true):s.toList.isEmpty=false:=by
 cases hs:s.toList.isEmpty with
 | false=>rfl
 | true=>
  exfalso
  have h0:s.toList = []:=by simpa using hs
  have h1:s.size=0:=by
   have:=congrArg List.length h0;rw [ByteArray.toList_eq] at this;simpa using this
  unfold Kz at h;rw [dif_neg Ua] at h
  cases h
theorem Jej {a b:ByteArray} (h:a.toList=b.toList):a=b:=Zf.1 (by rw [h];simp)
theorem Jem:∀ {l:List Va} {s:ByteArray} {v:Va},Xb l s=some v->v∈l/\v.name.toList=s.toList
 | [],s,v,h=>by simp [Xb] at h
 | u :: l,s,v,h=>by
  rw [Xb] at h
  split at h
  ·rename_i hn;obtain rfl:u=v:=by injection h
   exact⟨Uh,by simpa using hn⟩
  ·obtain⟨h1,h2⟩:=Jem h;exact⟨by simp [h1],h2⟩
end Go.Proofs.YtdgjplldlfeolaaGreatDoor
namespace Go.Proofs.YtdgjplldlfeolaaGreatDoor
open Go.RowKit Go.Sort
theorem Zt (a:Int) (s:ByteArray) (b:Int) (t:ByteArray) (w:World):(Op.equalIn 10000 81 (.agg #[.int .i64 a,.string s]) (.agg #[.int .i64 b,.string t])).run Tryz.prog w = .ok (K9 a s b t) w:=by
 have hS:Tryz.prog.underlying 81=some (.struct (Tryz.prog.fieldsOf 81)):=Ue;have hp:Tryz.prog.stoodInHeld 81=false:=Ue;rw [show(10000:Nat)=9999+1 from rfl,run_equalIn_agg w 9999 81 _ _ hS hp];simp only [Program.fieldsOf,Tryz.underlying81];go_simp;unfold K9
 by_cases h1:a=b <;> by_cases h2:s.toList=t.toList <;> simp [h1,h2]
theorem Jbt:Tryz.prog.eqGuardType Tryz.prog.depth 81=false:=Ue
def Jh8:Va:=⟨⟨#[]⟩,0,0,⟨#[]⟩⟩
def fcV:Option Va->Value
 | some v=> .tuple #[vaV v,.bool true]
 | none=> .tuple #[vaV Jh8,.bool false]
theorem Jg9 (l:List Va) (A:Option Addr) (cap:Nat) (s:ByteArray) (w:World) (hl:Ju w l A cap) (hn:l.length<=1000000) :
  Calls Tryz.prog 134 #[.slice A l.length cap,.string s] w fun r w'=>r = .returned (fcV (Xb l s))/\Below w.heap.size w w':=by
 have hv:fcV (Xb l s)=fcV (Xb l s):=rfl;clear hv
 go_enter Tryz.func134,Tryz.ntmps134
 go_wp2_with fail
 refine Jo fun W0 ag=>?_;have ax:=Nd w W0 Uz;have bD:w.heap.size<W0.heap.size:=Vu;have f0:=Nb W0 w.heap.size 0 (.string ⟨#[]⟩) Uf;have f1:=Na W0 w.heap.size 1 0 Uf;have f2:=Na W0 w.heap.size 2 0 Uf;have f3:=Nb W0 w.heap.size 3 (.string ⟨#[]⟩) Uf;have z0:=Nc W0 w.heap.size 0 Uf;have z1:=Nc W0 w.heap.size 1 Uf;have z2:=Nc W0 w.heap.size 2 Uf;have z3:=Nc W0 w.heap.size 3 Uf;clear ag;replace hl:=hl.later ax
 go_loopw [10] (fun i wr=>∃k:Nat,k<=l.length/\i = .int .i64 k/\Xb (l.drop k) s=Xb l s/\Below W0.heap.size W0 wr) (fun i _=>l.length-(intOf i).toNat)
 case atStart=>exact⟨0,Np,rfl,rfl,Nt⟩
 case round=>
  obtain⟨k,hk,rfl,aa,ab⟩:=hrel;have hc:=Jg ab;have eh:=Jf ab;have bu:=ab.size;have fF:=lt0 w wr
  by_cases am:k<l.length
  ·obtain⟨x,hx,-,hd⟩:=Kl am;obtain⟨b,off,rfl,aH,⟨d0,d1,d2,d3⟩⟩:=(hl.later ab).get hx;rw [hd,Xb] at aa;clear hd hx
   cases dj:(x.name.toList == s.toList)
   ·rw [dj,if_neg Uh] at aa;have HR:=Nf aa;clear aa
    go_wp2_with fail
    exact Ubw
   ·rw [dj,if_pos rfl] at aa;have HR:=Nf aa;clear aa
    go_wp2_with fail
    refine Nv (v:= .tuple #[.agg #[.string x.name,.int .i64 x.type,.int .i64 x.ck,.string x.cn],.bool true]) (by simp [results,Tryz.results134,go_sem, *]) rfl ⟨Mp,?_⟩;exact Km
  obtain rfl:k=l.length:=Ua;rw [Nn,Xb] at aa;have HR:=Nf aa;clear aa
  go_wp2_with fail
  refine Nv (v:= .tuple #[.agg #[.string ⟨#[]⟩,.int .i64 0,.int .i64 0,.string ⟨#[]⟩],.bool false]) (by simp [results,Tryz.results134,go_sem, *]) rfl ⟨Mp,?_⟩;exact Km
structure Ql (w:World):Prop where
 c0:w.cell? ⟨0,0,none⟩=some (.int .i64 0)
 c1:w.cell? ⟨0,1,none⟩=some (.string ⟨#[]⟩)
theorem Ql.later {w w':World} (h:Ql w) (hb:Below w.heap.size w w'):Ql w':=⟨Ja hb h.c0,Ja hb h.c1⟩
theorem Jhu (l:List Va) (A:Option Addr) (cap:Nat) (s:ByteArray) (ok:Bool) (w:World) (hg:Ql w) (hl:Ju w l A cap) (hn:l.length<=1000000) :
  Calls Tryz.prog 144 #[.slice A l.length cap,.string s,.bool ok] w fun r w'=>r = .returned (.int .i64 (Jaw l s ok))/\Below w.heap.size w w':=by
 have ap:=fun W h=>Jg9 l A cap s W (hl.later h) hn;have hv:Jaw l s ok=Jaw l s ok:=rfl;rw (occs:= .pos [2]) [Jaw] at hv;obtain⟨a0,a1⟩:=hg;have eC:0<w.heap.size:=Nu a0
 cases hf:Xb l s with
 | none=>
  rw [hf] at hv ap;clear hf;have HV:=Nf hv;clear hv;unfold fcV vaV Jh8 at ap;dsimp only at ap
  go_enter Tryz.func144,Tryz.ntmps144
  go_wp2_with (first|(go_at_call 134;refine(ap _ Jb).mono ?_;rintro r w1 ⟨rfl,ac⟩;have ⟨ak,af⟩:=aft ac;(try simp at af);(try have go:0<w1.heap.size:=by omega)))
  go_ret;exact⟨Jm HV.out.symm,Jb⟩
 | some v=>
  rw [hf] at hv ap;clear hf;unfold fcV vaV at ap;dsimp only at ap hv;have fM:=Jbt;have dp:=fun w=>Zt v.ck v.cn 0 ⟨#[]⟩ w
  cases ok
  ·rw [Bool.false_and,if_neg Uh] at hv;have HV:=Nf hv;clear hv
   go_enter Tryz.func144,Tryz.ntmps144
   exact Uc8
  ·cases hq:K9 v.ck v.cn 0 ⟨#[]⟩
   ·rw [hq] at hv dp;rw [Bool.and_false,if_neg Uh] at hv;exact Bv
   ·rw [hq] at hv dp;rw [Bool.and_true,if_pos rfl] at hv;exact Bv
def OfP (l:List Va) (A:Option Addr) (cap:Nat) (x:Ex):Prop:=∀(Ae:Option Addr) (ce:Nat) (ck:Int) (cs:ByteArray) (W:World),Ql W->Jt W x Ae ce->Ju W l A cap->
  Calls Tryz.prog 135 #[.slice A l.length cap,exV x Ae ce,.agg #[.int .i64 ck,.string cs]] W fun r w'=>r = .returned (.int .i64 (x.clk l (ck,cs)))/\Below W.heap.size W w'
theorem Ji6 (l:List Va) (A:Option Addr) (cap:Nat) (e:Ex) (ih:∀x∈e.sub,OfP l A cap x) (Ae:Option Addr) (ce:Nat) (ck:Int) (cs:ByteArray) (w:World) (hg:Ql w) (he:Jt w e Ae ce) (hl:Ju w l A cap) :
  Calls Tryz.prog 145 #[.slice A l.length cap,.slice Ae e.sub.length ce,.agg #[.int .i64 ck,.string cs]] w fun r w'=>r = .returned (.int .i64 (Ex.clkL l e.sub (ck,cs) (ck,cs)))/\Below w.heap.size w w':=by
 have ai:=he.len;unfold maxLen at ai;obtain⟨jD,jE⟩:=ai
 go_enter Tryz.func145,Tryz.ntmps145
 go_wp2_with fail
 refine Jo fun W0 ag=>?_;have ax:=Nd w W0 Uz;have bD:w.heap.size<W0.heap.size:=Vu;have f0:=Na W0 w.heap.size 0 ck Uf;have f1:=Nb W0 w.heap.size 1 (.string cs) Uf;clear ag;replace hl:=hl.later ax;replace he:=he.later ax;replace hg:=hg.later ax
 go_loopw [12] (fun i wr=>∃k:Nat,k<=e.sub.length/\i = .int .i64 k/\Ex.clkL l (e.sub.drop k) (ck,cs) (ck,cs)=Ex.clkL l e.sub (ck,cs) (ck,cs)/\Below W0.heap.size W0 wr) (fun i _=>e.sub.length-(intOf i).toNat)
 case atStart=>exact⟨0,Np,rfl,rfl,Nt⟩
 case round=>
  obtain⟨k,hk,rfl,aa,ab⟩:=hrel;have hc:=Jg ab;have bu:=ab.size;have fF:=lt0 w wr
  by_cases am:k<e.sub.length
  ·obtain⟨x,hx,aj,hd⟩:=Kl am;obtain⟨b,off,A',cap',rfl,c0,c1,c2,c3,hs⟩:=(he.later ab).get hx;rw [hd,Ex.clkL] at aa;have ihx:=fun W h1 h2 h3=>ih x aj A' cap' ck cs W h1 h2 h3;unfold exV at ihx;clear hd hx aj ih
   by_cases hz:x.clk l (ck,cs)≠0
   ·rw [if_pos hz] at aa;have t1:(x.clk l (ck,cs) != 0)=true:=Mb;have HR:=Nf aa;clear aa hz;generalize x.clk l (ck,cs)=xc at *
    go_wp2_with (first|(go_at_call 135;refine mo (ihx _ (hg.later Jb) (hs.later Jb) (hl.later Jb)) fun w1 ac ak af bV=>?_;(try simp at af)))
    go_ret;exact⟨Jm HR.out,Jb⟩
   ·rw [if_neg hz] at aa;have t1:(x.clk l (ck,cs) != 0)=false:=Mb;have HR:=Nf aa;clear aa hz;generalize x.clk l (ck,cs)=xc at *
    go_wp2_with (first|(go_at_call 135;refine mo (ihx _ (hg.later Jb) (hs.later Jb) (hl.later Jb)) fun w1 ac ak af bV=>?_;(try simp at af)))
    exact Ubw
  ·have bk:k=e.sub.length:=Ua;rw [bk,Nn,Ex.clkL] at aa;have HR:=Nf aa;clear aa bk;exact Uc2
theorem Jgh {l:List Va} {e:Ex} {c:Int×ByteArray} {f:Int} (h:Jac l e.kind e.name c.1 c.2=f) (hf:f≠0):e.clk l c=f:=by
 rw [Ex.clk_eq,h,if_pos hf]
theorem Jgg {l:List Va} {e:Ex} {c:Int×ByteArray} (h:Jac l e.kind e.name c.1 c.2=0):e.clk l c=Ex.clkL l e.sub (Jb3 e.kind e.name c) (Ja0 e.kind e.name c):=by
 rw [Ex.clk_eq,h,if_neg Ua]
end Go.Proofs.YtdgjplldlfeolaaGreatDoor
namespace Go.Proofs.YtdgjplldlfeolaaGreatDoor
open Go.RowKit
def Jb9 (v:Va):ByteArray:=
 if v.ck=1 then(if v.type=2 then v.name ++ ⟨#[32,58,32,98,111,111,108]⟩ else v.name ++ ⟨#[32,58,32,105,110,116]⟩) ++ (⟨#[32,119,104,101,110,32]⟩ ++ v.cn)
 else if v.ck=2 then(if v.type=2 then v.name ++ ⟨#[32,58,32,98,111,111,108]⟩ else v.name ++ ⟨#[32,58,32,105,110,116]⟩) ++ (⟨#[32,117,110,108,101,115,115,32]⟩ ++ v.cn)
 else(if v.type=2 then v.name ++ ⟨#[32,58,32,98,111,111,108]⟩ else v.name ++ ⟨#[32,58,32,105,110,116]⟩)
def Yr:Nat->ByteArray->List Va->ByteArray
 | _,s,[]=>s
 | k,s,v :: l=>Yr (k+1) ((if 0<k then s ++ ⟨#[59,32]⟩ else s) ++ Jb9 v) l
def Y9 (l:List Va):ByteArray:=Yr 0 ⟨#[40]⟩ l ++ ⟨#[41]⟩
def Ym (p:Pr):ByteArray:=⟨#[110,111,100,101,32]⟩ ++ p.name ++ ⟨#[32]⟩ ++ Y9 p.ins ++ ⟨#[32,114,101,116,117,114,110,115,32]⟩ ++ Y9 p.outs ++ ⟨#[59,10]⟩
def Xr:ByteArray->List Va->ByteArray
 | s,[]=>s
 | s,v :: l=>Xr (s ++ (⟨#[32,32]⟩ ++ Jb9 v ++ ⟨#[59,10]⟩)) l
def Jhz (s:ByteArray) (q:Qe):ByteArray:=
 (if q.delay=1 then(s ++ (⟨#[32,32]⟩ ++ q.name ++ ⟨#[32,61,32]⟩)) ++ (q.first.showB ++ ⟨#[32,102,98,121,32]⟩) else if q.delay=2 then(s ++ (⟨#[32,32]⟩ ++ q.name ++ ⟨#[32,61,32]⟩)) ++ ⟨#[112,114,101,32]⟩ else s ++ (⟨#[32,32]⟩ ++ q.name ++ ⟨#[32,61,32]⟩)) ++ (q.e.showB ++ ⟨#[59,10]⟩)
def Zs:ByteArray->List Qe->ByteArray
 | s,[]=>s
 | s,q :: l=>Zs (Jhz s q) l
def Jal (p:Pr):ByteArray:=Zs (Xr (if 0<p.locals.length then Ym p ++ ⟨#[118,97,114,10]⟩ else Ym p) p.locals ++ ⟨#[108,101,116,10]⟩) p.eqs ++ ⟨#[116,101,108,10]⟩
def K5 (p:Pr):Int:=if Qw p=false then 4 else if 4096<(Jal p).size then 3 else 0
def Jb8 (v:Va):Prop:=v.name.size<=16/\v.cn.size<=16
theorem Jc9 {v:Va} (h:Jb8 v):(Jb9 v).size<=60:=by
 obtain⟨h1,h2⟩:=h;unfold Jb9
 repeat' split
 all_goals simp only [Kq,Ko,List.size_toArray,Nl,Nm]
 all_goals omega
theorem Jcl:∀(l:List Va),(∀v∈l,Jb8 v)->∀(k:Nat) (s:ByteArray),(Yr k s l).size<=s.size+62 * l.length
 | [],_,k,s=>by simp [Yr]
 | v :: l,h,k,s=>by
  have h1:=Jc9 (h v Uh);have:=Jcl l (fun x hx=>h x L8) (k+1) ((if 0<k then s ++ ⟨#[59,32]⟩ else s) ++ Jb9 v);rw [Yr];refine Nat.le_trans this ?_;rw [Kq,Nl]
  split
  ·exact Up
  ·exact Ua
theorem Jjv {l:List Va} (h:∀v∈l,Jb8 v):(Y9 l).size<=2+62 * l.length:=by
 have:=Jcl l h 0 ⟨#[40]⟩;unfold Y9;simp only [Kq,Ko,List.size_toArray,Nl,Nm] at this ⊢;exact Ua
theorem Jkm {v:Va} {own:Bool} (h:Ke v own=true):Jb8 v:=by
 unfold Ke at h;simp only [Bool.and_eq_true] at h;refine⟨Jaf h.1.1,?_⟩;have h2:=h.2
 split at h2
 ·exact Jgu (.inr h2)
 ·split at h2
  ·simp only [Bool.and_eq_true] at h2;exact Jaf h2.2
  ·simp at h2
theorem X4 {p:Pr} (h:Qw p=true):p.name.size<=16/\(∀v∈p.ins,Jb8 v)/\(∀v∈p.outs,Jb8 v)/\(∀v∈p.locals,Jb8 v)/\∀q∈p.eqs,eqB q=true:=by
 simp only [Qw,Bool.and_eq_true,List.all_eq_true] at h;exact⟨Jaf h.1.1.1.1,fun v hv=>Jkm (h.1.1.1.2 v hv),fun v hv=>Jkm (h.1.1.2 v hv),fun v hv=>Jkm (h.1.2 v hv),h.2⟩
theorem Jaq {q:Qe} (h:eqB q=true):q.name.size<=16/\q.e.formed=true/\q.e.size<=120/\(q.delay=1->q.first.formed=true/\q.first.size<=120)/\(q.delay=0\/q.delay=1\/q.delay=2):=by
 simp only [eqB,Bool.and_eq_true] at h;obtain⟨⟨h1,h2⟩,h3⟩:=h
 have small:∀e:Ex,e.right=0->e.formed=true/\e.size<=120:=by
  intro e he;have:=Ex.right_zero.1 he;have hs:=Ex.count_size e 121 Ua;exact⟨this.2.2,Ua⟩
 have tA:=small q.e Lw;refine⟨Jaf h1,tA.1,tA.2,fun hd=>?_,?_⟩
 ·rw [if_pos hd] at h3;unfold Ex.literal at h3
  split at h3
  ·rename_i hr;exact small _ hr
  ·simp at h3
 ·split at h3
  ·exact Ua
  ·split at h3
   ·exact Ua
   ·simp at h3
end Go.Proofs.YtdgjplldlfeolaaGreatDoor
namespace Go.Proofs.YtdgjplldlfeolaaGreatDoor
open Go.RowKit Go.Sort
def Off (base:Nat) (g:Option Nat) (w:World) (P:World->Prop):Prop:=∀w':World,(∀k,base<=k->k<w.heap.size->some k≠g->w'.heap[k]?=w.heap[k]?)->P w'
theorem Off.here {base:Nat} {g:Option Nat} {w:World} {P:World->Prop} (h:Off base g w P):P w:=h w fun _ _ _ _=>rfl
theorem Off.grow {base:Nat} {g g':Option Nat} {w w2:World} {P:World->Prop} (h:Off base g w P) (hs:∀k,base<=k->k<w.heap.size->some k≠g->w2.heap[k]?=w.heap[k]?) (cE:w.heap.size<=w2.heap.size)
  (hg:g'=g\/∀k,g'=some k->w.heap.size<=k):Off base g' w2 P:=fun w' jC=>h w' fun k h1 h2 h3=>by
 refine(jC k h1 Ua ?_).trans (hs k h1 h2 h3)
 rcases hg with rfl|hg
 ·exact h3
 ·intro he;have:=hg k he.symm;exact Ua
theorem Off.fresh {base base0:Nat} {g':Option Nat} {w w2:World} {P:World->Prop} (h:Off base0 none w P) (hb:base<=base0) (hs:∀k,base0<=k->k<w.heap.size->w2.heap[k]?=w.heap[k]?) (cE:w.heap.size<=w2.heap.size)
  (hg:∀k,g'=some k->k<base0\/w.heap.size<=k):Off base g' w2 P:=fun w' jC=>h w' fun k h1 h2 _=>by
 refine(jC k Ua Ua ?_).trans (hs k h1 h2);intro he;have:=hg k he.symm;omega
theorem Off.less {base base0:Nat} {g:Option Nat} {w:World} {P:World->Prop} (h:Off base0 g w P) (hb:base<=base0):Off base g w P:=fun w' jC=>h w' fun k h1 h2 h3=>jC k Ua h2 h3
theorem Off.later {base:Nat} {w w2:World} {P:World->Prop} (h:Off base none w P) (hb:Below w.heap.size w w2):Off base none w2 P:=
 h.grow (fun k _ hk _=>hb.block k hk) hb.size (.inl rfl)
theorem Off.map {base:Nat} {g:Option Nat} {w:World} {P R:World->Prop} (h:Off base g w P) (hpr:∀W,P W->R W):Off base g w R:=fun w' jC=>hpr _ (h w' jC)
section
variable {P:Program} {w:World}
theorem Jkl (base:Nat) (t ty e:TypeId) (z:Value) (size bytes:Nat) (ht:P.underlying t=some (.slice e)) (hi:(P.info? e).map (fun i=>(i.zero,i.size,i.bytes))=some (some z,size,bytes))
  (gH:z.cells.size=size) (cE:0<size) (v:Value) (n:Nat) (xs:List Value) (ae:w.ownsRow base e size v n xs) (ad:Addr) (m c:Nat) (news:List Value)
  (hl:news.length=m * size) (hj:∀j u,news[j]?=some u->w.cell? (ad.add j)=some u) (h1:∀u∈news,u.oneCell'=true) (hn:n+m<=100000000) (hb:bytes<=1000) (aK:base<=w.heap.size) :
  ∃v' w',(Builtin.append_ #[t,t] ty #[v,.slice (some ad) m c]).run P w = .ok v' w'/\w'.ownsRow base e size v' (n+m) (xs ++ news)/\w.grownBy w' v.ownBlock/\
   (v'.ownBlock=v.ownBlock\/∀k,v'.ownBlock=some k->w.heap.size<=k):=by
 obtain⟨i,kF,bD,af,br⟩:=info_parts hi;have iw:n+m<=maxLen:=Uo;have cI:(n+m) * bytes<=140737488355328:=Nat.le_trans (Nat.mul_le_mul hn hb) Ua;obtain⟨v',w',hr,h2,h3,_⟩:=run_append_own (P:=P) w base t ty e i z size bytes ht kF bD af br gH cE v n xs ae ad m c news hl hj h1 iw cI aK;refine⟨v',w',hr,h2,h3,?_⟩
 rcases ae.2 with ⟨rfl,rfl⟩|⟨g,cap,cur,rfl,hbg,hg,xz,fG,dj,htake⟩
 ·have xB:w.ownsRow w.heap.size e size (.slice none 0 0) 0 xs:=⟨ae.1,.inl ⟨rfl,rfl⟩⟩;obtain⟨v2,w2,fa,h22,_,_⟩:=run_append_own (P:=P) w w.heap.size t ty e i z size bytes ht kF bD af br gH cE _ 0 xs xB ad m c news hl hj h1 iw cI (Ns _);have he:=hr.symm.trans fa;injection he with e1 e2;subst e1 e2;exact .inr fun k hk=>(h22.lt k hk).1
 ·by_cases xC:n+m<=cap
  ·obtain⟨w2,fa,_,_⟩:=run_append_fits (P:=P) w base t ty e i size ht kF af g n cap xs ae ad m c news hl hj h1 xC;have he:=hr.symm.trans fa;injection he with e1 e2;subst e1;exact .inl rfl
  ·have xD:∀j u,xs[j]?=some u->w.cell? ((⟨g,0,none⟩:Addr).add j)=some u:=ae.cells (g:=g) rfl;subst af;have fa:=run_append_grow (P:=P) w t ty e i z ht kF bD ⟨g,0,none⟩ n cap xs ae.1 xD ad m c news hl hj Ua Ua (by subst br;exact growslice_fits Ua cI);have he:=hr.symm.trans fa;injection he with e1 e2;subst e1;refine .inr fun k hk=>?_;simp [Value.ownBlock] at hk;omega
theorem Jvm (g j:Nat):(⟨g,0,none⟩:Addr).add j=⟨g,j,none⟩:=Lr
theorem Ji5 {o:Oper} {a:Act} {K:Act->World->Prop} {Q:Exit->Act->World->Prop} (s x:Operand) (t:TypeId)
  (ho:o.op = .call {callee:= .builtin .append,args:=#[s,x],argTypes:=#[t,t]})
  (base:Nat) (e:TypeId) (z:Value) (size bytes:Nat) (ht:P.underlying t=some (.slice e)) (hi:(P.info? e).map (fun i=>(i.zero,i.size,i.bytes))=some (some z,size,bytes))
  (gH:z.cells.size=size) (cE:0<size) (v:Value) (n:Nat) (xs:List Value) (g m c:Nat) (news:List Value) (hs:a.eval s=v) (ae:w.ownsRow base e size v n xs)
  (hx:a.eval x = .slice (some ⟨g,0,none⟩) m c) (hl:news.length=m * size) (hj:∀j u,news[j]?=some u->w.cell? ⟨g,j,none⟩=some u) (h1:∀u∈news,u.oneCell'=true) (hn:n+m<=100000000) (hb:bytes<=1000) (aK:base<=w.heap.size)
  (h:∀v' w',w'.ownsRow base e size v' (n+m) (xs ++ news)->w.grownBy w' v.ownBlock->(v'.ownBlock=v.ownBlock\/∀k,v'.ownBlock=some k->w.heap.size<=k)->K (a.put o.dst v') w'):o.wp P a w K Q:=by
 obtain⟨v',w',hr,h2,h3,h4⟩:=Jkl (P:=P) base t o.type e z size bytes ht hi gH cE v n xs ae ⟨g,0,none⟩ m c news hl (fun j u hu=>by rw [Jvm];exact hj j u hu) h1 hn hb aK;unfold Oper.wp execOp;simp only [ho,resolve,invoke,builtin,Sem.run_bind,Sem.run_pure,Result.andThen_ok,List.map_toArray,List.map_cons,List.map_nil,hs,hx,hr];exact h v' w' h2 h3 h4
theorem Z2 {ops:Array Oper} {rest:List Oper} {o:Oper} {a:Act} {Q:Exit->Act->World->Prop} (oL:o.guard=none) (s x:Operand) (t:TypeId)
  (ho:o.op = .call {callee:= .builtin .append,args:=#[s,x],argTypes:=#[t,t]})
  (base:Nat) (e:TypeId) (z:Value) (size bytes:Nat) (ht:P.underlying t=some (.slice e)) (hi:(P.info? e).map (fun i=>(i.zero,i.size,i.bytes))=some (some z,size,bytes))
  (gH:z.cells.size=size) (cE:0<size) (v:Value) (n:Nat) (xs:List Value) (g m c:Nat) (news:List Value) (hs:a.eval s=v) (ae:w.ownsRow base e size v n xs)
  (hx:a.eval x = .slice (some ⟨g,0,none⟩) m c) (hl:news.length=m * size) (hj:∀j u,news[j]?=some u->w.cell? ⟨g,j,none⟩=some u) (h1:∀u∈news,u.oneCell'=true) (hn:n+m<=100000000) (hb:bytes<=1000) (aK:base<=w.heap.size)
  (h:∀v' w',w'.ownsRow base e size v' (n+m) (xs ++ news)->w.grownBy w' v.ownBlock->(v'.ownBlock=v.ownBlock\/∀k,v'.ownBlock=some k->w.heap.size<=k)->wpList P ops Q rest (a.put o.dst v') w'):wpList P ops Q (o :: rest) a w:=
 wpList_plain oL fun _ hK=>Ji5 s x t ho base e z size bytes ht hi gH cE v n xs g m c news hs ae hx hl hj h1 hn hb aK fun v' w' h2 h3 h4=>hK _ _ (h v' w' h2 h3 h4)
end
def exC (x:Ex) (a:Option Addr×Nat):List Value:=[.int .i64 x.kind,.int .i32 x.n,.string x.name,.slice a.1 x.sub.length a.2]
def Ya:List Ex->List (Option Addr×Nat)->List Value
 | x :: l,a :: ls=>exC x a ++ Ya l ls
 | _,_=>[]
theorem Jih:∀(l:List Ex) (ls:List (Option Addr×Nat)) (x:Ex) (a:Option Addr×Nat),ls.length=l.length->Ya (l ++ [x]) (ls ++ [a])=Ya l ls ++ exC x a
 | [],[],x,a,_=>by simp [Ya]
 | y :: l,b :: ls,x,a,h=>by
  simp only [List.cons_append,Ya,List.append_assoc];rw [Jih l ls x a Vl]
 | [],b :: ls,x,a,h=>Lc
 | y :: l,[],x,a,h=>Lc
theorem Xv.of_cells {w:World} {b:Nat} : ∀(l:List Ex) (ls:List (Option Addr×Nat)) (off:Nat),ls.length=l.length->(∀j u,(Ya l ls)[j]?=some u->w.cell? ⟨b,off+j,none⟩=some u)->
  (∀(j:Nat) (x:Ex) (a:Option Addr×Nat),l[j]?=some x->ls[j]?=some a->Jt w x a.1 a.2)->Xv w b l off
 | [],_,off,_,_,_=>by simp [Xv]
 | y :: l,[],off,h,_,_=>Lc
 | y :: l,a :: ls,off,h,hc,hs=>by
  rw [Xv];refine⟨⟨a.1,a.2,?_,?_,?_,?_,hs 0 y a rfl rfl⟩,Xv.of_cells l ls (off+4) Vl ?_ ?_⟩
  ·exact hc 0 _ rfl
  ·exact hc 1 _ rfl
  ·exact hc 2 _ rfl
  ·exact hc 3 _ rfl
  ·intro j u hj;have:=hc (4+j) u (by rw [Ya,List.getElem?_append_right (by simp [exC])];simpa [exC] using hj)
   rwa [show off+4+j=off+(4+j) from by omega]
  ·intro j x a' h1 h2;exact hs (j+1) x a' Lk Lw
theorem Jr {w w':World} {a:Addr} {v:Value} (h:w'.heap[a.block]?=w.heap[a.block]?) (hc:w.cell? a=some v):w'.cell? a=some v:=by
 rw [World.cell?_of_block h];exact hc
theorem Jt.of_own {w:World} {base:Nat} {t:TypeId} {x:Ex} {v:Value} {ls:List (Option Addr×Nat)} (h:w.ownsRow base t 4 v x.sub.length (Ya x.sub ls)) (hl:ls.length=x.sub.length)
  (hs:∀(j:Nat) (y:Ex) (a:Option Addr×Nat),x.sub[j]?=some y->ls[j]?=some a->Off base v.ownBlock w (fun W=>Jt W y a.1 a.2)):∃A cap,v = .slice A x.sub.length cap/\Off base none w (fun W=>Jt W x A cap):=by
 rcases Nat.eq_zero_or_pos x.sub.length with h0|h0
 ·obtain⟨A,cap,rfl,h1,h2⟩:=Jv h;refine⟨A,cap,rfl,fun w' _=>?_⟩;show Jt w' x A cap;rw [Jao];exact⟨h1,h2,fun h=>absurd h Ua⟩
 ·obtain⟨g,cap,rfl,hg,am,h1,h2,hc⟩:=Kc h h0;refine⟨_,cap,rfl,fun w' jC=>?_⟩;show Jt w' x _ cap;rw [Jao];refine⟨h1,h2,fun _=>⟨g,0,rfl,Xv.of_cells _ ls 0 hl (fun j u hj=>?_) fun j y a hy ha=>hs j y a hy ha w' fun k k1 k2 _=>jC k k1 k2 Uh⟩⟩;rw [Nat.zero_add];exact Jr (jC g hg am Uh) (hc j u hj)
def eqC (q:Qe) (a:(Option Addr×Nat)×(Option Addr×Nat)):List Value:=
 [.string q.name,.int .i64 q.delay,.int .i64 q.first.kind,.int .i32 q.first.n,.string q.first.name,.slice a.1.1 q.first.sub.length a.1.2,.int .i64 q.e.kind,.int .i32 q.e.n,.string q.e.name,.slice a.2.1 q.e.sub.length a.2.2]
def Jed:List Qe->List ((Option Addr×Nat)×(Option Addr×Nat))->List Value
 | q :: l,a :: ls=>eqC q a ++ Jed l ls
 | _,_=>[]
theorem Jmw:∀(l:List Qe) (ls:List ((Option Addr×Nat)×(Option Addr×Nat))) (x:Qe) (a:(Option Addr×Nat)×(Option Addr×Nat)),ls.length=l.length->Jed (l ++ [x]) (ls ++ [a])=Jed l ls ++ eqC x a
 | [],[],x,a,_=>by simp [Jed]
 | y :: l,b :: ls,x,a,h=>by
  simp only [List.cons_append,Jed,List.append_assoc];rw [Jmw l ls x a Vl]
 | [],b :: ls,x,a,h=>Lc
 | y :: l,[],x,a,h=>Lc
theorem Jrk:∀(l:List Qe) (ls:List ((Option Addr×Nat)×(Option Addr×Nat))) (k:Nat) (q:Qe) (a:(Option Addr×Nat)×(Option Addr×Nat)),l[k]?=some q->ls[k]?=some a->∀(i:Nat) (u:Value),(eqC q a)[i]?=some u->(Jed l ls)[k * 10+i]?=some u
 | [],_,k,q,a,h,_,_,_,_=>Lc
 | y :: l,[],k,q,a,_,h,_,_,_=>Lc
 | y :: l,b :: ls,0,q,a,h1,h2,i,u,hu=>by
  simp at h1 h2;subst h1 h2;have hi:i<(eqC y b).length:=(Nh hu).1;rw [Jed,Nat.zero_mul,Nat.zero_add,List.getElem?_append_left hi];exact hu
 | y :: l,b :: ls,k+1,q,a,h1,h2,i,u,hu=>by
  have ai:(eqC y b).length=10:=rfl;rw [Jed,List.getElem?_append_right (by rw [ai];omega),ai,show(k+1) * 10+i-10=k * 10+i from by omega];exact Jrk l ls k q a Lk Lw i u hu
theorem Jap.of_own {w:World} {base:Nat} {t:TypeId} {l:List Qe} {v:Value} {ls:List ((Option Addr×Nat)×(Option Addr×Nat))} (h:w.ownsRow base t 10 v l.length (Jed l ls)) (hl:ls.length=l.length)
  (hs:∀(j:Nat) (q:Qe) (a:(Option Addr×Nat)×(Option Addr×Nat)),l[j]?=some q->ls[j]?=some a->Off base v.ownBlock w (fun W=>Jt W q.first a.1.1 a.1.2/\Jt W q.e a.2.1 a.2.2)):∃A cap,v = .slice A l.length cap/\Off base none w (fun W=>Jap W l A cap):=by
 rcases Nat.eq_zero_or_pos l.length with h0|h0
 ·obtain⟨A,cap,rfl,h1,h2⟩:=Jv h;exact⟨A,cap,rfl,fun w' _=>⟨h1,h2,fun h=>absurd h Ua⟩⟩
 ·obtain⟨g,cap,rfl,hg,am,h1,h2,hc⟩:=Kc h h0;refine⟨_,cap,rfl,fun w' jC=>⟨h1,h2,fun _=>⟨g,0,rfl,fun k q hk=>?_⟩⟩⟩;have hka:k<ls.length:=by rw [hl];exact(Nh hk).1
  have ha:ls[k]?=some ls[k]:=Ng hka;generalize ls[k]=a at ha;have cB:=fun i u hu=>Jr (jC g hg am Uh) (hc _ _ (Jrk l ls k q a hk ha i u hu));rw [Nat.zero_add];have aT:=hs k q a hk ha w' fun k k1 k2 _=>jC k k1 k2 Uh;exact⟨a.1.1,a.1.2,a.2.1,a.2.2,⟨cB 0 _ rfl,cB 1 _ rfl,cB 2 _ rfl,cB 3 _ rfl,cB 4 _ rfl,cB 5 _ rfl,cB 6 _ rfl,cB 7 _ rfl,cB 8 _ rfl,cB 9 _ rfl,aT.1,aT.2⟩⟩
theorem Ju.off_own {w:World} {base:Nat} {e:TypeId} {l:List Va} {v:Value} (h:w.ownsRow base e 4 v l.length (Xe l)):∃A cap,v = .slice A l.length cap/\Off base none w (fun W=>Ju W l A cap):=by
 obtain⟨A,cap,rfl,h1,h2⟩:=Jv h;refine⟨A,cap,rfl,fun w' jC=>?_⟩
 rcases Nat.eq_zero_or_pos l.length with h0|h0
 ·exact⟨h1,h2,fun hl=>absurd hl Ua⟩
 ·obtain⟨g,c',hv,hg,am,h1,h2,hc⟩:=Kc h h0;injection hv with e1 e2 e3;subst e1 e3;refine⟨h1,h2,fun _=>⟨g,0,rfl,fun k v hk=>?_⟩⟩;have ha:=fun i u hu=>Jr (jC g hg am Uh) (hc _ _ (Jrh l k v hk i u hu));exact Ub1
theorem Ju.off_own' {w:World} {base:Nat} {e:TypeId} {l:List Va} {A:Option Addr} {cap:Nat} (h:w.ownsRow base e 4 (.slice A l.length cap) l.length (Xe l)):Off base none w (fun W=>Ju W l A cap):=by
 obtain⟨A',cap',hv,ho⟩:=Ju.off_own h;injection hv with e1 e2 e3;subst e1 e3;exact ho
theorem Qo {w:World} {c:Array Value} {t:TypeId} {g j:Nat} (hg:g=w.heap.size):(w.alloc (.cells c t)).cell? ⟨g,j,none⟩=c[j]?:=by subst hg;exact Kw w c t j
theorem Kn {B n size z:Nat} {t:TypeId} {w:World} {v:Value} {xs:List Value} (ae:w.ownsRow B t size v n xs) (hz:∀b,v.ownBlock=some b->b≠z) (o:Nat) (u:Value):(w.setCell ⟨z,o,none⟩ u).ownsRow B t size v n xs:=
 ae.kept (row:=some z) ⟨rfl,rfl,rfl,Uh,fun k _ hk=>heap_setCell_other w ⟨z,o,none⟩ k u (fun e=>hk (by rw [e]))⟩ (by
  cases hb:v.ownBlock with
  | none=>exact .inl rfl
  | some b=>
   right
   intro he;injection he with he;exact hz b hb he)
theorem K8 {w:World} {B B' n size:Nat} {t:TypeId} {v:Value} {xs:List Value} (h:w.ownsRow B t size v n xs) (hb:B'<=B):w.ownsRow B' t size v n xs:=by
 refine⟨h.1,?_⟩
 rcases h.2 with h2|⟨g,cap',cur,hv,hg,r⟩
 ·exact .inl h2
 ·exact .inr ⟨g,cap',cur,hv,Ua,r⟩
theorem Jbd {B n size z:Nat} {t:TypeId} {w:World} {v:Value} {xs:List Value} (ae:w.ownsRow B t size v n xs) (hz:z<B) (o:Nat) (u:Value):(w.setCell ⟨z,o,none⟩ u).ownsRow B t size v n xs:=
 ae.kept (row:=some z) ⟨rfl,rfl,rfl,Uh,fun k _ hk=>heap_setCell_other w ⟨z,o,none⟩ k u (fun e=>hk (by rw [e]))⟩ (by
  cases hb:v.ownBlock with
  | none=>exact .inl rfl
  | some b=>
   right
   intro he;have:=(ae.lt b hb).1;injection he with he;omega)
theorem Kou {z:Nat} {w w1 w3:World} {row:Option Nat} (h:Below z w w1) (hg:w1.grownBy w3 row) (ay:∀b,row=some b->z<=b) (hz:z<=w1.heap.size):Below z w w3:=
 ⟨hg.os.trans h.os,hg.tape.trans h.tape,hg.output.trans h.output,Nat.le_trans h.size hg.size,fun k hk=>(hg.block k Ua (fun he=>by have:=ay k he.symm;omega)).trans (h.block k hk)⟩
theorem Jii {B n size:Nat} {t:TypeId} {wr w1 w3:World} {v:Value} {xs:List Value} (ae:wr.ownsRow B t size v n xs) (hB:B<=wr.heap.size) (ac:Below wr.heap.size wr w1) (hg:w1.grownBy w3 v.ownBlock):∀k,k<B->w3.heap[k]?=wr.heap[k]?:=fun k hk=>by
 have:=ac.size;refine(hg.block k Ua fun he=>?_).trans (ac.block k Ua);have:=(ae.lt k he.symm).1;exact Ua
end Go.Proofs.YtdgjplldlfeolaaGreatDoor
namespace Go.Proofs.YtdgjplldlfeolaaGreatDoor
open Go.RowKit
def Ka (l:List ByteArray) (s:ByteArray):Bool:=l.any fun x=>x.toList == s.toList
theorem Jcx (l:List ByteArray) (x s:ByteArray):Ka (l ++ [x]) s=(Ka l s || x.toList == s.toList):=by
 unfold Ka;rw [List.any_append];simp
def Yw (l:List ByteArray) (s:ByteArray):List ByteArray:=if s.toList.isEmpty=true then l else if Ka l s=true then l else l ++ [s]
theorem Jj5 (l:List ByteArray) (s:ByteArray):l.length<=(Yw l s).length/\(Yw l s).length<=l.length+1:=by
 unfold Yw
 split
 ·exact Ua
 ·split
  ·exact Ua
  ·exact Uh
namespace Ex
mutual
def named:List ByteArray->Ex->List ByteArray
 | l,mk _ _ s sub=>namedL (Yw l s) sub
def namedL:List ByteArray->List Ex->List ByteArray
 | l,[]=>l
 | l,x :: r=>namedL (named l x) r
end
theorem named_eq (l:List ByteArray) (e:Ex):e.named l=namedL (Yw l e.name) e.sub:=by cases e;rw [named];rfl
theorem Jlq:∀(r:List Ex),(∀x∈r,∀l,l.length<=(named l x).length/\(named l x).length<=l.length+x.size)->∀l,l.length<=(namedL l r).length/\(namedL l r).length<=l.length+sizeL r
 | [],_,l=>by simp [namedL]
 | x :: r,h,l=>by
  have h1:=h x Uh l;have h2:=Jlq r (fun y hy=>h y Mx) (named l x);simp only [namedL,sizeL];exact Ua
theorem named_len (e:Ex):∀l,l.length<=(named l e).length/\(named l e).length<=l.length+e.size:=by
 induction e using ind with
 | h e ih=>
  intro l;have h1:=Jj5 l e.name;have h2:=Jlq e.sub ih (Yw l e.name);rw [named_eq,size_eq];omega
end Ex
def Kx (e:Ex):List ByteArray:=if 120<e.count 121 then [] else e.named []
end Go.Proofs.YtdgjplldlfeolaaGreatDoor
