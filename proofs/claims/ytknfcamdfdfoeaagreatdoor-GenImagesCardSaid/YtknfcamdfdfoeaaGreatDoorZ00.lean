/- Lemmas. -/
import Derived.Test.YtknfcamdfdfoeaaGreatDoorMac
import Derived.WalkKit
import Derived.WalkSpells
import Derived.WalkLawsBesides
import Derived.Deep.QuietTactic
import Derived.BigQuiet
import Derived.Deep.Draws
import Derived.Lib.Hide
import Derived.Deep.LoopGhost
import Derived.StillTailTactics
import Derived.Deep.RegionHeld3
import Derived.Deep.RegionWith
import Derived.Lib.QuietBelow
import Derived.Test.YtknfcamdfdfoeaaGreatDoorRows
import Derived.Laws.OwnMore
import Derived.Deep.RegionLaw
import Derived.Laws.RangeAny
import Derived.WideShapes
set_option linter.unusedVariables false
set_option linter.unusedSimpArgs false
set_option maxRecDepth 100000
set_option maxHeartbeats 64000000
namespace Go.Proofs.YtknfcamdfdfoeaaGreatDoor
open Go.RowKit
inductive Ex where
 | mk (kind n:Int) (name:ByteArray) (sub:List Ex)
structure Va where
 name:ByteArray
 type:Int
 ck:Int
 cn:ByteArray
structure Qe where
 name:ByteArray
 delay:Int
 first:Ex
 e:Ex
structure Pr where
 name:ByteArray
 ins:List Va
 outs:List Va
 locals:List Va
 eqs:List Qe
def I64 (x:Int):Prop:=-9223372036854775808<=x/\x<=9223372036854775807
def I32 (x:Int):Prop:=-2147483648<=x/\x<=2147483647
namespace Ex
def kind:Ex->Int|mk k _ _ _=>k
def n:Ex->Int|mk _ n _ _=>n
def name:Ex->ByteArray|mk _ _ s _=>s
def sub:Ex->List Ex|mk _ _ _ l=>l
def zero:Ex:=mk 0 0 ⟨#[]⟩ []
mutual
def size:Ex->Nat
 | mk _ _ _ l=>sizeL l+1
def sizeL:List Ex->Nat
 | []=>0
 | x :: l=>size x+sizeL l
end
theorem size_eq (e:Ex):e.size=sizeL e.sub+1:=by cases e;simp [size,sub]
theorem size_mem:∀(l:List Ex) (k:Nat) (x:Ex),l[k]?=some x->x.size<=sizeL l
 | [],k,x,h=>Lt
 | y :: l,0,x,h=>by simp at h;subst h;simp [sizeL]
 | y :: l,k+1,x,h=>by
  have:=size_mem l k x Ve;simp [sizeL];omega
theorem size_sub {e x:Ex} {k:Nat} (h:e.sub[k]?=some x):x.size<e.size:=by
 have:=size_mem _ _ _ h;rw [size_eq e];omega
theorem ind {p:Ex->Prop} (h:∀e,(∀x∈e.sub,p x)->p e) (e:Ex):p e:=by
 have:∀n (e:Ex),e.size<=n->p e:=by
  intro n
  induction n with
  | zero=>intro e he;rw [size_eq] at he;omega
  | succ n ih=>
   intro e he;refine h e fun x hx=>ih x ?_;obtain⟨k,hk⟩:=List.mem_iff_getElem?.1 hx;have:=size_sub hk;omega
 exact this _ e (Ns _)
mutual
def OK:Ex->Prop
 | mk k n s l=>I64 k/\I32 n/\s.size<=maxLen/\OKL l
def OKL:List Ex->Prop
 | []=>True
 | x :: l=>OK x/\OKL l
end
theorem OKL_mem:∀ {l:List Ex},OKL l->∀x∈l,OK x
 | [],_,x,hx=>by cases hx
 | y :: l,h,x,hx=>by
  simp only [OKL] at h
  rcases List.mem_cons.1 hx with rfl|hx
  ·exact h.1
  ·exact OKL_mem h.2 x hx
theorem OK_sub {e x:Ex} (h:OK e) (hx:x∈e.sub):OK x:=by
 cases e;simp only [OK,sub] at *;exact OKL_mem h.2.2.2 x hx
mutual
def count:Ex->Int->Int
 | mk _ _ _ l,most=>countL l 1 most
def countL:List Ex->Int->Int->Int
 | [],n,_=>n
 | x :: l,n,most=>if n>=most then n else countL l (n+count x (most-n)) most
end
theorem count_eq (e:Ex) (most:Int):e.count most=countL e.sub 1 most:=by cases e;simp [count,sub]
theorem Jh1:∀(l:List Ex),(∀x∈l,∀m,1<=count x m/\count x m<=max 1 m)->∀n m,1<=n->n<=max 1 m->n<=countL l n m/\countL l n m<=max 1 m
 | [],_,n,m,h1,h2=>by simp [countL];omega
 | x :: l,hx,n,m,h1,h2=>by
  simp only [countL]
  split
  ·exact⟨Ua,Ua⟩
  ·have:=hx x Ul (m-n);have:=Jh1 l (fun y hy=>hx y F0) (n+count x (m-n)) m Ua Ua;exact⟨Ua,Ua⟩
theorem count_bd (e:Ex):∀m,1<=count e m/\count e m<=max 1 m:=by
 induction e using ind with
 | h e ih=>
  intro m;rw [count_eq];have:=Jh1 e.sub ih 1 m Ua Ua;exact⟨Ua,Ua⟩
theorem Jjc:∀(l:List Ex),(∀x∈l,∀m,count x m<m->count x m=x.size)->∀n m,1<=n->countL l n m<m->countL l n m=n+sizeL l
 | [],_,n,m,_,h=>by simp [countL,sizeL]
 | x :: l,hx,n,m,h1,h=>by
  simp only [countL,sizeL] at h ⊢
  split at h
  ·exact Ua
  ·rename_i qK;rw [if_neg qK];have hb:=count_bd x (m-n);have hl:=Jh1 l (fun y _=>count_bd y) (n+count x (m-n)) m Ua Ua;have:=hx x Ul (m-n) Ua;have:=Jjc l (fun y hy=>hx y F0) (n+count x (m-n)) m Ua h;exact Ua
theorem count_size (e:Ex):∀m,count e m<m->count e m=e.size:=by
 induction e using ind with
 | h e ih=>
  intro m h;rw [count_eq] at h ⊢;rw [Jjc e.sub ih 1 m Ua h,size_eq];omega
mutual
def depth:Ex->Int
 | mk _ _ _ l=>depthL l 0+1
def depthL:List Ex->Int->Int
 | [],n=>n
 | x :: l,n=>depthL l (max n (depth x))
end
theorem depth_eq (e:Ex):e.depth=depthL e.sub 0+1:=by cases e;simp [depth,sub]
theorem Jnm:∀(l:List Ex),(∀x∈l,1<=depth x/\depth x<=x.size)->∀n,n<=depthL l n/\depthL l n<=max n (sizeL l)
 | [],_,n=>by simp [depthL];omega
 | x :: l,hx,n=>by
  have:=hx x Ul;have:=Jnm l (fun y hy=>hx y F0) (max n (depth x));simp only [depthL,sizeL];exact Ua
theorem depth_bd (e:Ex):1<=depth e/\depth e<=e.size:=by
 induction e using ind with
 | h e ih=>
  rw [depth_eq,size_eq];have:=Jnm e.sub ih 0;omega
end Ex
end Go.Proofs.YtknfcamdfdfoeaaGreatDoor
namespace Go.Proofs.YtknfcamdfdfoeaaGreatDoor
open Go.RowKit Go.Sort
theorem Jd {w a b:World} (h:Below w.heap.size w a) (k:Below a.heap.size a b):Below w.heap.size w b:=h.trans (k.mono h.size)
theorem Jh {w a:World} (h:Below w.heap.size w a):Below w.heap.size w a.drew:=h.drew
theorem J8 {w a:World} (h:Below w.heap.size w a) (n:Nat):Below w.heap.size w (a.drewN n):=⟨h.os,h.tape,h.output,h.size,h.block⟩
theorem Jc {w a:World} (h:Below w.heap.size w a) (o:Obj):Below w.heap.size w (a.alloc o):=h.alloc h.size o
theorem Jb {n:Nat} {a b:World} (h:Below n a b:=by repeat (first|exact Nt|(with_reducible assumption)|refine Jd ?_ Uf|refine Jd ?_ (below_regrown _ _ _)|refine Jh ?_|refine J8 ?_ _|refine Jc ?_ _|refine Jn ?_ Uf Ua)):Below n a b:=h
theorem Km {n:Nat} {a b:World} (h:Below n a b:=by repeat (first|exact Nt|(with_reducible assumption)|refine Jd ?_ Uf|refine Below.setCell ?_ Ul _|refine Jc ?_ _|refine Jn ?_ Uf Ua)):Below n a b:=h
theorem Jlo {n:Nat} {a b:World} (h:Below n a b:=by(repeat refine Jh ?_);repeat (first|exact Nt|(with_reducible assumption)|refine Jd ?_ Uf|refine Below.setCell ?_ (by simp <;> omega) _|refine Jc ?_ _|refine Jh ?_|refine Jn ?_ Uf Ua)):Below n a b:=h
theorem lt0 (a b:World) (h:a.heap.size<b.heap.size:=by omega):a.heap.size<b.heap.size:=h
theorem ltA (a:World) (k:Nat) (b:World) (h:a.heap.size+k<b.heap.size:=by omega):a.heap.size+k<b.heap.size:=h
theorem Ja {w a:World} (h:Below w.heap.size w a) {p:Addr} {v:Value} (hc:w.cell? p=some v):a.cell? p=some v:=by
 rw [h.cell (Nu hc)];exact hc
theorem Jg {W w1:World} (hb:Below W.heap.size W w1):∀b o,b<W.heap.size->w1.cell? ⟨b,o,none⟩=W.cell? ⟨b,o,none⟩:=fun b o h=>hb.cell (p:=⟨b,o,none⟩) h
theorem aft {W w1:World} (hb:Below W.heap.size W w1):(∀b o,b<W.heap.size->w1.cell? ⟨b,o,none⟩=W.cell? ⟨b,o,none⟩)/\W.heap.size<=w1.heap.size:=⟨Jg hb,hb.size⟩
theorem alt {W w1:World} (hb:Below W.heap.size W w1):∀n,n<W.heap.size->n<w1.heap.size:=fun _ hn=>Nr hn hb.size
theorem mo {P:Program} {f:FuncId} {args:Array Value} {w:World} {v:Value} {K:Ending->World->Prop} (h:Calls P f args w fun r w'=>r = .returned v/\Below w.heap.size w w')
  (k:∀w1,Below w.heap.size w w1->(∀b o,b<w.heap.size->w1.cell? ⟨b,o,none⟩=w.cell? ⟨b,o,none⟩)->w.heap.size<=w1.heap.size->(∀n,n<w.heap.size->n<w1.heap.size)->K (.returned v) w1):Calls P f args w K:=
 h.mono fun r w1 ⟨hr,hb⟩=>hr ▸ k w1 hb (Jg hb) hb.size fun n hn=>Nr hn hb.size
theorem Kl {α:Type} {l:List α} {k:Nat} (h:k<l.length):∃x,l[k]?=some x/\x∈l/\l.drop k=x :: l.drop (k+1):=⟨l[k],Ng h,Nj h,No h⟩
theorem Jf {W w1:World} (hb:Below W.heap.size W w1):∀b o,b<W.heap.size->w1.frozen? ⟨b,o,none⟩=W.frozen? ⟨b,o,none⟩:=fun b o h=>hb.frozen (p:=⟨b,o,none⟩) h
theorem Jo {P:Program} {c:Code} {Q:Exit->Act->World->Prop} {a:Act} {W:World} (h:∀W0,W0=W->c.wp P Q a W0):c.wp P Q a W:=h W rfl
theorem J4 {w:World} {o:Obj} {p:Addr} {v:Value} (hc:w.cell? p=some v):(w.alloc o).cell? p=some v:=Ja (Jc (Nt) o) hc
theorem Zw {w:World} {p:Addr} {v:Value} (hc:w.cell? p=some v):w.drew.cell? p=some v:=hc
theorem Jx {P:Program} {id:Nat} {Q:Exit->Act->World->Prop} {a:Act} {w:World} {l:List Oper} (hm:P.follows .mixedOrders=true) (hB:Region.lexB .any l.toArray=true)
  (h:(∀(d:Nat) (os:Array Obj) (p:Addr),p.block<w.heap.size->(grow (redrawn w d) os).cell? p=w.cell? p)->
   wpQuiet P l.toArray (fun w'=>∃p:Regrown,w'=grow (redrawn w p.d) p.os) (fun a'=>∀w',(∃p:Regrown,w'=grow (redrawn w p.d) p.os)->Q .normal a' w') l a):(Code.region id l.toArray true).wp P Q a w:=
 wp_region_quiet_below hm hB (h fun d os _ hp=>(below_regrown w d os).cell hp)
theorem Jfg {w w':World} (h:∃p:Regrown,w'=grow (redrawn w p.d) p.os):Below w.heap.size w w':=by
 obtain⟨p,rfl⟩:=h;exact below_regrown w p.d p.os
theorem qbo {w w':World} (h:∃p:Regrown,w'=grow (redrawn w p.d) p.os):Below w.heap.size w w'/\(∀b o,b<w.heap.size->w'.cell? ⟨b,o,none⟩=w.cell? ⟨b,o,none⟩)/\w.heap.size<=w'.heap.size:=⟨Jfg h,Jg (Jfg h),(Jfg h).size⟩
mutual
def Jt (w:World):Ex->Option Addr->Nat->Prop
 | .mk _ _ _ l,A,cap=>l.length<=cap/\cap<=maxLen/\(0<l.length->∃b off,A=some ⟨b,off,none⟩/\Xv w b l off)
def Xv (w:World) (b:Nat):List Ex->Nat->Prop
 | [],_=>True
 | e :: l,off=>(∃A cap,w.cell? ⟨b,off,none⟩=some (.int .i64 e.kind)/\w.cell? ⟨b,off+1,none⟩=some (.int .i32 e.n)/\w.cell? ⟨b,off+2,none⟩=some (.string e.name)/\
   w.cell? ⟨b,off+3,none⟩=some (.slice A e.sub.length cap)/\Jt w e A cap)/\Xv w b l (off+4)
end
theorem Jao {w:World} {e:Ex} {A:Option Addr} {cap:Nat} : Jt w e A cap<->e.sub.length<=cap/\cap<=maxLen/\(0<e.sub.length->∃b off,A=some ⟨b,off,none⟩/\Xv w b e.sub off):=by
 cases e;simp [Jt,Ex.sub]
theorem Xv.get {w:World} {b:Nat} : ∀ {l:List Ex} {off k:Nat} {x:Ex},Xv w b l off->l[k]?=some x->
  ∃A cap,w.cell? ⟨b,off+k * 4,none⟩=some (.int .i64 x.kind)/\w.cell? ⟨b,off+k * 4+1,none⟩=some (.int .i32 x.n)/\w.cell? ⟨b,off+k * 4+2,none⟩=some (.string x.name)/\
   w.cell? ⟨b,off+k * 4+3,none⟩=some (.slice A x.sub.length cap)/\Jt w x A cap
 | [],off,k,x,_,h=>Lt
 | e :: l,off,0,x,h,hk=>by
  simp at hk;subst hk;simp only [Xv] at h;simpa using h.1
 | e :: l,off,k+1,x,h,hk=>by
  simp only [Xv] at h;have:=h.2.get (k:=k) Vw;have e1:off+4+k * 4=off+(k+1) * 4:=Ua
  rwa [e1] at this
mutual
theorem Jt.keep {w w':World} (hw:∀ {p:Addr} {v:Value},w.cell? p=some v->w'.cell? p=some v):∀(e:Ex) {A:Option Addr} {cap:Nat},Jt w e A cap->Jt w' e A cap
 | .mk _ _ _ l,A,cap,h=>by
  simp only [Jt] at h ⊢;refine⟨h.1,h.2.1,fun hl=>?_⟩;obtain⟨b,off,hA,hr⟩:=h.2.2 hl;exact⟨b,off,hA,Xv.keep hw l hr⟩
theorem Xv.keep {w w':World} (hw:∀ {p:Addr} {v:Value},w.cell? p=some v->w'.cell? p=some v) {b:Nat} : ∀(l:List Ex) {off:Nat},Xv w b l off->Xv w' b l off
 | [],off,_=>by simp [Xv]
 | e :: l,off,h=>by
  simp only [Xv] at h ⊢;obtain⟨⟨A,cap,h0,h1,h2,h3,h4⟩,hr⟩:=h;exact⟨⟨A,cap,hw h0,hw h1,hw h2,hw h3,Jt.keep hw e h4⟩,Xv.keep hw l hr⟩
end
theorem Jt.later {w w':World} {e:Ex} {A:Option Addr} {cap:Nat} (h:Jt w e A cap) (hb:Below w.heap.size w w'):Jt w' e A cap:=Jt.keep (fun hc=>Ja hb hc) e h
theorem Jt.get {w:World} {e x:Ex} {A:Option Addr} {cap k:Nat} (h:Jt w e A cap) (hk:e.sub[k]?=some x):∃b off A' cap',A=some ⟨b,off,none⟩/\
  w.cell? ⟨b,off+k * 4,none⟩=some (.int .i64 x.kind)/\w.cell? ⟨b,off+k * 4+1,none⟩=some (.int .i32 x.n)/\w.cell? ⟨b,off+k * 4+2,none⟩=some (.string x.name)/\
   w.cell? ⟨b,off+k * 4+3,none⟩=some (.slice A' x.sub.length cap')/\Jt w x A' cap':=by
 rw [Jao] at h;have am:k<e.sub.length:=(Nh hk).1;obtain⟨b,off,hA,hr⟩:=h.2.2 Ua;obtain⟨A',cap',h0,h1,h2,h3,h4⟩:=hr.get hk;exact⟨b,off,A',cap',hA,h0,h1,h2,h3,h4⟩
theorem Jt.len {w:World} {e:Ex} {A:Option Addr} {cap:Nat} (h:Jt w e A cap):e.sub.length<=cap/\cap<=maxLen:=by
 rw [Jao] at h;exact⟨h.1,h.2.1⟩
theorem Jm {k:IntKind} {a b:Int} (h:a=b):Ending.returned (.int k a) = .returned (.int k b):=Ti
theorem Jk {a b:Bool} (h:a=b):Ending.returned (.bool a) = .returned (.bool b):=Ti
theorem Kk {a b:ByteArray} (h:a=b):Ending.returned (.string a) = .returned (.string b):=Ti
def exV (e:Ex) (A:Option Addr) (cap:Nat):Value:= .agg #[.int .i64 e.kind,.int .i32 e.n,.string e.name,.slice A e.sub.length cap]
structure Jfc (w:World) (b off:Nat) (v:Va):Prop where
 c0:w.cell? ⟨b,off,none⟩=some (.string v.name)
 c1:w.cell? ⟨b,off+1,none⟩=some (.int .i64 v.type)
 c2:w.cell? ⟨b,off+2,none⟩=some (.int .i64 v.ck)
 c3:w.cell? ⟨b,off+3,none⟩=some (.string v.cn)
def vaV (v:Va):Value:= .agg #[.string v.name,.int .i64 v.type,.int .i64 v.ck,.string v.cn]
def Ju (w:World) (l:List Va) (A:Option Addr) (cap:Nat):Prop:=
 l.length<=cap/\cap<=maxLen/\(0<l.length->∃b off,A=some ⟨b,off,none⟩/\∀k v,l[k]?=some v->Jfc w b (off+k * 4) v)
structure Jgf (w:World) (b off:Nat) (q:Qe) (A1:Option Addr) (c1:Nat) (A2:Option Addr) (c2:Nat):Prop where
 g0:w.cell? ⟨b,off,none⟩=some (.string q.name)
 g1:w.cell? ⟨b,off+1,none⟩=some (.int .i64 q.delay)
 g2:w.cell? ⟨b,off+2,none⟩=some (.int .i64 q.first.kind)
 g3:w.cell? ⟨b,off+3,none⟩=some (.int .i32 q.first.n)
 g4:w.cell? ⟨b,off+4,none⟩=some (.string q.first.name)
 g5:w.cell? ⟨b,off+5,none⟩=some (.slice A1 q.first.sub.length c1)
 g6:w.cell? ⟨b,off+6,none⟩=some (.int .i64 q.e.kind)
 g7:w.cell? ⟨b,off+7,none⟩=some (.int .i32 q.e.n)
 g8:w.cell? ⟨b,off+8,none⟩=some (.string q.e.name)
 g9:w.cell? ⟨b,off+9,none⟩=some (.slice A2 q.e.sub.length c2)
 s1:Jt w q.first A1 c1
 s2:Jt w q.e A2 c2
def qeV (q:Qe) (A1:Option Addr) (c1:Nat) (A2:Option Addr) (c2:Nat):Value:=
 .agg #[.string q.name,.int .i64 q.delay,.int .i64 q.first.kind,.int .i32 q.first.n,.string q.first.name,.slice A1 q.first.sub.length c1,.int .i64 q.e.kind,.int .i32 q.e.n,.string q.e.name,.slice A2 q.e.sub.length c2]
def Jap (w:World) (l:List Qe) (A:Option Addr) (cap:Nat):Prop:=
 l.length<=cap/\cap<=maxLen/\(0<l.length->∃b off,A=some ⟨b,off,none⟩/\∀k q,l[k]?=some q->∃A1 c1 A2 c2,Jgf w b (off+k * 10) q A1 c1 A2 c2)
theorem Jfc.later {w w':World} {b off:Nat} {v:Va} (h:Jfc w b off v) (hb:Below w.heap.size w w'):Jfc w' b off v:=
 ⟨Ja hb h.c0,Ja hb h.c1,Ja hb h.c2,Ja hb h.c3⟩
theorem Ju.later {w w':World} {l:List Va} {A:Option Addr} {cap:Nat} (h:Ju w l A cap) (hb:Below w.heap.size w w'):Ju w' l A cap:=
 ⟨h.1,h.2.1,fun hl=>by
  obtain⟨b,off,hA,hr⟩:=h.2.2 hl;exact⟨b,off,hA,fun k v hk=>(hr k v hk).later hb⟩⟩
theorem Ju.get {w:World} {l:List Va} {A:Option Addr} {cap k:Nat} {v:Va} (h:Ju w l A cap) (hk:l[k]?=some v):∃b off,A=some ⟨b,off,none⟩/\b<w.heap.size/\Jfc w b (off+k * 4) v:=by
 have am:k<l.length:=(Nh hk).1;obtain⟨b,off,hA,hr⟩:=h.2.2 Ua;exact⟨b,off,hA,Nu (hr k v hk).c0,hr k v hk⟩
theorem Ju.len {w:World} {l:List Va} {A:Option Addr} {cap:Nat} (h:Ju w l A cap):l.length<=cap/\cap<=maxLen:=⟨h.1,h.2.1⟩
theorem Jgf.later {w w':World} {b off:Nat} {q:Qe} {A1:Option Addr} {c1:Nat} {A2:Option Addr} {c2:Nat} (h:Jgf w b off q A1 c1 A2 c2) (hb:Below w.heap.size w w'):Jgf w' b off q A1 c1 A2 c2:=
 ⟨Ja hb h.g0,Ja hb h.g1,Ja hb h.g2,Ja hb h.g3,Ja hb h.g4,Ja hb h.g5,Ja hb h.g6,Ja hb h.g7,Ja hb h.g8,Ja hb h.g9,h.s1.later hb,h.s2.later hb⟩
theorem Jap.later {w w':World} {l:List Qe} {A:Option Addr} {cap:Nat} (h:Jap w l A cap) (hb:Below w.heap.size w w'):Jap w' l A cap:=
 ⟨h.1,h.2.1,fun hl=>by
  obtain⟨b,off,hA,hr⟩:=h.2.2 hl
  exact⟨b,off,hA,fun k v hk=>by
   obtain⟨A1,c1,A2,c2,h⟩:=hr k v hk;exact⟨A1,c1,A2,c2,h.later hb⟩⟩⟩
theorem Jap.get {w:World} {l:List Qe} {A:Option Addr} {cap k:Nat} {q:Qe} (h:Jap w l A cap) (hk:l[k]?=some q):∃b off A1 c1 A2 c2,A=some ⟨b,off,none⟩/\b<w.heap.size/\Jgf w b (off+k * 10) q A1 c1 A2 c2:=by
 have am:k<l.length:=(Nh hk).1;obtain⟨b,off,hA,hr⟩:=h.2.2 Ua;obtain⟨A1,c1,A2,c2,h⟩:=hr k q hk;exact⟨b,off,A1,c1,A2,c2,hA,Nu h.g0,h⟩
theorem Jap.len {w:World} {l:List Qe} {A:Option Addr} {cap:Nat} (h:Jap w l A cap):l.length<=cap/\cap<=maxLen:=⟨h.1,h.2.1⟩
structure PrA where
 A1:Option Addr
 c1:Nat
 A2:Option Addr
 c2:Nat
 A3:Option Addr
 c3:Nat
 A4:Option Addr
 c4:Nat
structure Kr (w:World) (p:Pr) (a:PrA):Prop where
 ins:Ju w p.ins a.A1 a.c1
 outs:Ju w p.outs a.A2 a.c2
 locals:Ju w p.locals a.A3 a.c3
 eqs:Jap w p.eqs a.A4 a.c4
theorem Kr.later {w w':World} {p:Pr} {a:PrA} (h:Kr w p a) (hb:Below w.heap.size w w'):Kr w' p a:=⟨h.ins.later hb,h.outs.later hb,h.locals.later hb,h.eqs.later hb⟩
def prV (p:Pr) (a:PrA):Value:= .agg #[.string p.name,.slice a.A1 p.ins.length a.c1,.slice a.A2 p.outs.length a.c2,.slice a.A3 p.locals.length a.c3,.slice a.A4 p.eqs.length a.c4]
section
variable {P:Program} {w w':World} {base:Nat} {e:TypeId} {size n:Nat} {v:Value} {xs:List Value}
theorem Jpb (h:w.ownsRow base e size v n xs) (hb:∀k,k<w.heap.size->w'.heap[k]?=w.heap[k]?):w'.ownsRow base e size v n xs:=by
 obtain⟨h1,h2⟩:=h;refine⟨h1,?_⟩
 rcases h2 with h2|⟨g,cap,cur,hv,hg,hh,r⟩
 ·exact .inl h2
 ·refine .inr ⟨g,cap,cur,hv,hg,?_,r⟩
  have am:g<w.heap.size:=by
   rcases Nat.lt_or_ge g w.heap.size with h|h
   ·exact h
   ·rw [Array.getElem?_eq_none h] at hh;cases hh
  rw [hb g am];exact hh
theorem Jy (h:w.ownsRow base e size v n xs) (hb:Below w.heap.size w w'):w'.ownsRow base e size v n xs:=Jpb h hb.block
theorem Js (h:w.ownsRow base e size v n xs) {o:Obj} : (w.alloc o).ownsRow base e size v n xs:=h.alloc o
theorem Kp (h:w.ownsRow base e size v n xs):w.drew.ownsRow base e size v n xs:=h
theorem Kc (h:w.ownsRow base e size v n xs) (hn:0<n):∃g cap,v = .slice (some ⟨g,0,none⟩) n cap/\base<=g/\g<w.heap.size/\n<=cap/\cap<=maxLen/\∀j u,xs[j]?=some u->w.cell? ⟨g,j,none⟩=some u:=by
 have am:=h.lt;obtain⟨hx,h'⟩:=h;have h:w.ownsRow base e size v n xs:=⟨hx,h'⟩
 rcases h' with ⟨rfl,h0⟩|⟨g,cap,cur,rfl,hg,hh,h1,h2,_⟩
 ·exact Ua
 ·refine⟨g,cap,rfl,hg,(am g rfl).2,h1,h2,fun j u hj=>?_⟩;have:=h.cells rfl j u hj;have cQ:(⟨g,0,none⟩:Addr).add j=⟨g,j,none⟩:=Lq
  rwa [cQ] at this
theorem Jv (h:w.ownsRow base e size v n xs):∃A cap,v = .slice A n cap/\n<=cap/\cap<=maxLen:=by
 rcases h.2 with ⟨rfl,rfl⟩|⟨g,cap,cur,rfl,hg,hh,h1,h2,_⟩
 ·exact⟨none,0,rfl,Ns _,by simp [maxLen]⟩
 ·exact⟨_,cap,rfl,h1,h2⟩
theorem Jn {a b c:World} {B:Nat} (h:Below a.heap.size a b) (k:Below B b c) (hB:a.heap.size<=B):Below a.heap.size a c:=h.trans (k.mono hB)
theorem Kw (w:World) (c:Array Value) (t:TypeId) (j:Nat):(w.alloc (.cells c t)).cell? ⟨w.heap.size,j,none⟩=c[j]?:=cell_of_row _ _ _ _ _ _ (heap_alloc_new w _)
theorem Kap {ops:Array Oper} {rest:List Oper} {o:Oper} {a:Act} {Q:Exit->Act->World->Prop} (oL:o.guard=none) (s x:Operand) (t:TypeId)
  (ho:o.op = .call {callee:= .builtin .append,args:=#[s,x],argTypes:=#[t,t]})
  (base:Nat) (e:TypeId) (z:Value) (size bytes:Nat) (ht:P.underlying t=some (.slice e)) (hi:(P.info? e).map (fun i=>(i.zero,i.size,i.bytes))=some (some z,size,bytes))
  (gH:z.cells.size=size) (cE:0<size) (v:Value) (n:Nat) (xs:List Value) (g c:Nat) (news:List Value)
  (hs:a.eval s=v) (ae:w.ownsRow base e size v n xs)
  (hx:a.eval x = .slice (some ⟨g,0,none⟩) 1 c) (hl:news.length=size) (xy:∀j u,news[j]?=some u->w.cell? ⟨g,j,none⟩=some u) (h1:∀u∈news,u.oneCell'=true)
  (hn:n<100000000) (hb:bytes<=1000) (aK:base<=w.heap.size)
  (h:∀v' w',w'.ownsRow base e size v' (n+1) (xs ++ news)->Below base w w'->wpList P ops Q rest (a.put o.dst v') w'):wpList P ops Q (o :: rest) a w:=by
 obtain⟨i,kF,bD,af,br⟩:=info_parts hi;refine wpList_append_own w oL s x t ho base e i z size bytes ht kF bD af br gH cE v n xs hs ae ⟨g,0,none⟩ 1 c news hx (by simp [hl]) (fun j u hj=>?_) h1 U2 ?_ aK fun v' w' h2 h3 _=>?_
 ·have cQ:(⟨g,0,none⟩:Addr).add j=⟨g,j,none⟩:=Lq;rw [cQ];exact xy j u hj
 ·exact Nat.le_trans (Nat.mul_le_mul (Nat.le_of_lt_succ (by omega:n+1<100000002)) hb) Ua
 ·refine h v' w' h2 ⟨h3.os,h3.tape,h3.output,h3.size,fun k hk=>h3.block k Ua fun dz=>?_⟩;have:=(ae.lt k dz.symm).1;exact Ua
end
def X6 (w:World) (A:Option Addr) (m size:Nat) (news:List Value):Prop:=
 news.length=m * size/\(0<m->∃b off,A=some ⟨b,off,none⟩/\∀j u,news[j]?=some u->w.cell? ⟨b,off+j,none⟩=some u)
section
variable {P:Program} {w:World}
theorem Jju (base:Nat) (t ty e:TypeId) (i:TypeInfo) (size:Nat) (ht:P.underlying t=some (.slice e)) (hi:P.info? e=some i) (v:Value) (n:Nat) (xs:List Value) (ae:w.ownsRow base e size v n xs) (c:Nat) :
  (Builtin.append_ #[t,t] ty #[v,.slice none 0 c]).run P w = .ok v w:=by
 rcases ae.2 with ⟨rfl,rfl⟩|⟨g,cap,cur,rfl,_,_,xz,_⟩
 ·simp [Builtin.append_,run_underlying ht,sizeOf,typeInfo,hi,Builtin.lenOf,Builtin.firstCells]
 ·simp [Builtin.append_,run_underlying ht,sizeOf,typeInfo,hi,Builtin.lenOf,Builtin.firstCells,xz,storeCells]
theorem Jxt (base:Nat) (t ty e:TypeId) (z:Value) (size bytes:Nat) (ht:P.underlying t=some (.slice e)) (hi:(P.info? e).map (fun i=>(i.zero,i.size,i.bytes))=some (some z,size,bytes))
  (gH:z.cells.size=size) (cE:0<size) (v:Value) (n:Nat) (xs:List Value) (ae:w.ownsRow base e size v n xs) (A:Option Addr) (m c:Nat) (news:List Value)
  (hc:X6 w A m size news) (h1:∀u∈news,u.oneCell'=true) (hn:n+m<=100000000) (hb:bytes<=1000) (aK:base<=w.heap.size) :
  ∃v' w',(Builtin.append_ #[t,t] ty #[v,.slice A m c]).run P w = .ok v' w'/\w'.ownsRow base e size v' (n+m) (xs ++ news)/\Below base w w':=by
 obtain⟨i,kF,bD,af,br⟩:=info_parts hi;obtain⟨hl,ah⟩:=hc
 have main:∀ad,A=some ad->(∀j u,news[j]?=some u->w.cell? (ad.add j)=some u)->∃v' w',(Builtin.append_ #[t,t] ty #[v,.slice A m c]).run P w = .ok v' w'/\w'.ownsRow base e size v' (n+m) (xs ++ news)/\Below base w w':=by
  rintro ad rfl hj;obtain⟨v',w',hr,h2,h3,_⟩:=run_append_own w base t ty e i z size bytes ht kF bD af br gH cE v n xs ae ad m c news hl hj h1 U2 (Nat.le_trans (Nat.mul_le_mul hn hb) Ua) aK;refine⟨v',w',hr,h2,⟨h3.os,h3.tape,h3.output,h3.size,fun k hk=>h3.block k Ua fun dz=>?_⟩⟩;have:=(ae.lt k dz.symm).1;exact Ua
 rcases Nat.eq_zero_or_pos m with rfl|hm
 ·have:news = []:=List.eq_nil_of_length_eq_zero (by simpa using hl);subst this
  cases A with
  | none=>exact⟨v,w,Jju base t ty e i size ht kF v n xs ae c,by simpa using ae,Nt⟩
  | some ad=>exact main ad rfl (fun j u hj=>by simp at hj)
 ·obtain⟨b,off,rfl,hj⟩:=ah hm;refine main _ rfl fun j u hu=>?_;have cQ:(⟨b,off,none⟩:Addr).add j=⟨b,off+j,none⟩:=Lq;rw [cQ];exact hj j u hu
theorem Jur {o:Oper} {a:Act} {K:Act->World->Prop} {Q:Exit->Act->World->Prop} (s x:Operand) (t:TypeId)
  (ho:o.op = .call {callee:= .builtin .append,args:=#[s,x],argTypes:=#[t,t]})
  (base:Nat) (e:TypeId) (z:Value) (size bytes:Nat) (ht:P.underlying t=some (.slice e)) (hi:(P.info? e).map (fun i=>(i.zero,i.size,i.bytes))=some (some z,size,bytes))
  (gH:z.cells.size=size) (cE:0<size) (v:Value) (n:Nat) (xs:List Value) (A:Option Addr) (m c:Nat) (news:List Value) (hs:a.eval s=v) (ae:w.ownsRow base e size v n xs)
  (hx:a.eval x = .slice A m c) (hc:X6 w A m size news) (h1:∀u∈news,u.oneCell'=true) (hn:n+m<=100000000) (hb:bytes<=1000) (aK:base<=w.heap.size)
  (h:∀v' w',w'.ownsRow base e size v' (n+m) (xs ++ news)->Below base w w'->K (a.put o.dst v') w'):o.wp P a w K Q:=by
 obtain⟨v',w',hr,h2,h3⟩:=Jxt (P:=P) base t o.type e z size bytes ht hi gH cE v n xs ae A m c news hc h1 hn hb aK;unfold Oper.wp execOp;simp only [ho,resolve,invoke,builtin,Sem.run_bind,Sem.run_pure,Result.andThen_ok,List.map_toArray,List.map_cons,List.map_nil,hs,hx,hr];exact h v' w' h2 h3
theorem K6 {ops:Array Oper} {rest:List Oper} {o:Oper} {a:Act} {Q:Exit->Act->World->Prop} (oL:o.guard=none) (s x:Operand) (t:TypeId)
  (ho:o.op = .call {callee:= .builtin .append,args:=#[s,x],argTypes:=#[t,t]})
  (base:Nat) (e:TypeId) (z:Value) (size bytes:Nat) (ht:P.underlying t=some (.slice e)) (hi:(P.info? e).map (fun i=>(i.zero,i.size,i.bytes))=some (some z,size,bytes))
  (gH:z.cells.size=size) (cE:0<size) (v:Value) (n:Nat) (xs:List Value) (A:Option Addr) (m c:Nat) (news:List Value) (hs:a.eval s=v) (ae:w.ownsRow base e size v n xs)
  (hx:a.eval x = .slice A m c) (hc:X6 w A m size news) (h1:∀u∈news,u.oneCell'=true) (hn:n+m<=100000000) (hb:bytes<=1000) (aK:base<=w.heap.size)
  (h:∀v' w',w'.ownsRow base e size v' (n+m) (xs ++ news)->Below base w w'->wpList P ops Q rest (a.put o.dst v') w'):wpList P ops Q (o :: rest) a w:=
 wpList_plain oL fun _ hK=>Jur s x t ho base e z size bytes ht hi gH cE v n xs A m c news hs ae hx hc h1 hn hb aK fun v' w' h2 h3=>hK _ _ (h v' w' h2 h3)
theorem Jg1 {ops:Array Oper} {o:Oper} {a:Act} {K:Act->World->Prop} {Q:Exit->Act->World->Prop} {E:Prop} (oL:o.guard=none) (s x:Operand) (t:TypeId)
  (ho:o.op = .call {callee:= .builtin .append,args:=#[s,x],argTypes:=#[t,t]})
  (base:Nat) (e:TypeId) (z:Value) (size bytes:Nat) (ht:P.underlying t=some (.slice e)) (hi:(P.info? e).map (fun i=>(i.zero,i.size,i.bytes))=some (some z,size,bytes))
  (gH:z.cells.size=size) (cE:0<size) (v:Value) (n:Nat) (xs:List Value) (A:Option Addr) (m c:Nat) (news:List Value) (hs:a.eval s=v) (ae:w.ownsRow base e size v n xs)
  (hx:a.eval x = .slice A m c) (hc:X6 w A m size news) (h1:∀u∈news,u.oneCell'=true) (hn:n+m<=100000000) (hb:bytes<=1000) (aK:base<=w.heap.size)
  (h:∀v' w',w'.ownsRow base e size v' (n+m) (xs ++ news)->Below base w w'->K (a.put o.dst v') w'):if Region.wanted o (yielded ops a.tmps)=true then Oper.wp P o a w K Q else E:=by
 have hw:Region.wanted o (yielded ops a.tmps)=true:=by simp [Region.wanted,oL]
 rw [if_pos hw];exact Jur s x t ho base e z size bytes ht hi gH cE v n xs A m c news hs ae hx hc h1 hn hb aK h
end
def vaC (v:Va):List Value:=[.string v.name,.int .i64 v.type,.int .i64 v.ck,.string v.cn]
def Xe (l:List Va):List Value:=l.flatMap vaC
theorem Jwi (l:List Va):(Xe l).length=l.length * 4:=by
 induction l with
 | nil=>rfl
 | cons v l ih=>rw [Xe,List.flatMap_cons,Nk,<-Xe,ih];simp [vaC];omega
theorem Jor:∀(l:List Va) (j:Nat) (u:Value),(Xe l)[j]?=some u->∃v,l[j / 4]?=some v/\(vaC v)[j % 4]?=some u
 | [],j,u,h=>by simp [Xe] at h
 | v :: l,j,u,h=>by
  rw [Xe,List.flatMap_cons,<-Xe] at h
  rcases Nat.lt_or_ge j 4 with hj|hj
  ·rw [List.getElem?_append_left (by simpa [vaC] using hj)] at h;refine⟨v,?_,?_⟩
   ·rw [Nat.div_eq_of_lt hj];rfl
   ·rw [Nat.mod_eq_of_lt hj];exact h
  ·rw [List.getElem?_append_right (by simpa [vaC] using hj)] at h;have ai:(vaC v).length=4:=rfl;rw [ai] at h;obtain⟨x,h1,h2⟩:=Jor l (j-4) u h;refine⟨x,?_,?_⟩
   ·rw [show j / 4=(j-4) / 4+1 from by omega];simpa using h1
   ·rw [show j % 4=(j-4) % 4 from by omega];exact h2
theorem Jrh (l:List Va) (k:Nat) (v:Va) (h:l[k]?=some v) (i:Nat) (u:Value) (hu:(vaC v)[i]?=some u):(Xe l)[k * 4+i]?=some u:=by
 induction l generalizing k with
 | nil=>simp at h
 | cons x l ih=>
  rw [Xe,List.flatMap_cons,<-Xe]
  have hi:i<4:=by
   have:=(Nh hu).1;simpa [vaC] using this
  cases k with
  | zero=>
   simp at h;subst h;rw [List.getElem?_append_left (by simp [vaC];omega)];simpa using hu
  | succ k=>
   rw [List.getElem?_append_right (by simp [vaC];omega)];have ai:(vaC x).length=4:=rfl;rw [ai,show(k+1) * 4+i-4=k * 4+i from by omega];exact ih k Ve
theorem Jbg (l:List Va):∀u∈Xe l,u.oneCell'=true:=by
 intro u hu;obtain⟨v,_,hv⟩:=List.mem_flatMap.1 hu;simp [vaC] at hv
 rcases hv with rfl|rfl|rfl|rfl <;> rfl
theorem Ju.cells {w:World} {l:List Va} {A:Option Addr} {cap:Nat} (h:Ju w l A cap):X6 w A l.length 4 (Xe l):=by
 refine⟨Jwi l,fun hl=>?_⟩;obtain⟨b,off,hA,hr⟩:=h.2.2 hl;refine⟨b,off,hA,fun j u hj=>?_⟩;obtain⟨v,h1,h2⟩:=Jor l j u hj;obtain⟨d0,d1,d2,d3⟩:=hr _ _ h1;have fb:off+j=off+j / 4 * 4+j % 4:=Ua;rw [fb];have hm:j % 4<4:=Nat.mod_lt _ Ua;generalize j % 4=i at h2 hm
 match i,hm,h2 with
 | 0,_,h2=>simp [vaC] at h2;subst h2;exact d0
 | 1,_,h2=>simp [vaC] at h2;subst h2;exact d1
 | 2,_,h2=>simp [vaC] at h2;subst h2;exact d2
 | 3,_,h2=>simp [vaC] at h2;subst h2;exact d3
theorem Ju.of_own {w:World} {base:Nat} {e:TypeId} {l:List Va} {A:Option Addr} {cap:Nat} (h:w.ownsRow base e 4 (.slice A l.length cap) l.length (Xe l)):Ju w l A cap:=by
 rcases Nat.eq_zero_or_pos l.length with h0|h0
 ·obtain⟨A',c',hv,h1,h2⟩:=Jv h;injection hv with e1 e2 e3;subst e3;exact⟨h1,h2,fun hl=>absurd hl Ua⟩
 ·obtain⟨g,c',hv,_,_,h1,h2,hc⟩:=Kc h h0;injection hv with e1 e2 e3;subst e1 e3;refine⟨h1,h2,fun _=>⟨g,0,rfl,fun k v hk=>?_⟩⟩;have ha:=fun i u hu=>hc _ _ (Jrh l k v hk i u hu);rw [Nat.zero_add];exact⟨ha 0 _ rfl,ha 1 _ rfl,ha 2 _ rfl,ha 3 _ rfl⟩
theorem Kj (w:World):(zeroValue 3).run Tryz.prog w = .ok (.int .i64 0) w:=Ug
end Go.Proofs.YtknfcamdfdfoeaaGreatDoor
namespace Go.Proofs.YtknfcamdfdfoeaaGreatDoor
open Go.RowKit
def Zh (c:Int):Bool:=decide (97<=c/\c<=122)
def Jbz (c:Int):Bool:=decide (48<=c/\c<=57)
def Q5 (c:Int):Bool:=Zh c || Jbz c || decide (c=95)
theorem Jkp (c:Int) (w:World):Calls Tryz.prog 162 #[.int .i32 c] w fun r w'=>r = .returned (.bool (Zh c))/\w=w':=by
 unfold Zh
 by_cases h:97<=c
 ·go_enter Tryz.func162,Tryz.ntmps162
  exact Udb
 ·go_enter Tryz.func162,Tryz.ntmps162
  exact Udc
theorem Ju5 (c:Int) (w:World):Calls Tryz.prog 176 #[.int .i32 c] w fun r w'=>r = .returned (.bool (Jbz c))/\w=w':=by
 unfold Jbz
 by_cases h:48<=c
 ·go_enter Tryz.func176,Tryz.ntmps176
  exact Udb
 ·go_enter Tryz.func176,Tryz.ntmps176
  exact Udc
theorem Jm2 (c:Int) (w:World):Calls Tryz.prog 164 #[.int .i32 c] w fun r w'=>r = .returned (.bool (Q5 c))/\w=w':=by
 unfold Q5
 cases h:Zh c <;> cases h2:Jbz c <;>
 ·go_enter Tryz.func164,Tryz.ntmps164
  go_wp2_with (first|(go_at_call 162;refine(Jkp _ _).mono ?_;rintro r w1 ⟨rfl,rfl⟩)|(go_at_call 176;refine(Ju5 _ _).mono ?_;rintro r w1 ⟨rfl,rfl⟩))
  go_ret;exact⟨Jk (by first|rfl|(rw [Bool.eq_iff_iff];simp)),rfl⟩
def Jdo (s:ByteArray):Bool:=s.toList == [110,111,100,101] || s.toList == [114,101,116,117,114,110,115] || s.toList == [118,97,114] || s.toList == [108,101,116] || s.toList == [116,101,108] || s.toList == [105,102] || s.toList == [116,104,101,110] || s.toList == [101,108,115,101] || s.toList == [102,98,121] || s.toList == [112,114,101] || s.toList == [119,104,101,110] || s.toList == [117,110,108,101,115,115] || s.toList == [109,101,114,103,101] || s.toList == [110,111,116] || s.toList == [116,114,117,101] || s.toList == [102,97,108,115,101] || s.toList == [105,110,116] || s.toList == [98,111,111,108]
theorem Jwp (s:ByteArray) (w:World):Calls Tryz.prog 165 #[.string s] w fun r w'=>r = .returned (.bool (Jdo s))/\w=w':=by
 go_enter Tryz.func165,Tryz.ntmps165
 go_wp2_with fail
 all_goals first
  | (exfalso;simp_all;done)
  | (go_ret;exact⟨Jk (by simp [Jdo, *]),rfl⟩)
def Zb (p:Int->Bool) (s:ByteArray):Nat->Nat->Nat
 | 0,_=>s.size
 | fuel+1,pos=>if pos<s.size then(if p ((Utf8.decode s pos).1:Int) then Zb p s fuel (pos+(Utf8.decode s pos).2) else pos) else s.size
theorem Jqv (s:ByteArray) (pos:Nat):1<=(Utf8.decode s pos).2:=by
 simp only [Utf8.decode]
 repeat' split
 all_goals simp
theorem Jhm (s:ByteArray):s.extract 0 s.size=s:=by
 ext1;simp
theorem Jsk (s:ByteArray) (w:World) (hs:s.size<=maxLen):Calls Tryz.prog 163 #[.string s,.func (.func 164) #[] #[]] w fun r w'=>r = .returned (.string (s.extract 0 (Zb Q5 s (s.size+1) 0)))/\Below w.heap.size w w':=by
 unfold maxLen at hs
 go_enter Tryz.func163,Tryz.ntmps163
 go_wp2_with fail
 go_loopg [] (s.size+1) (fun k wr=>∃pos,s.size<k+pos/\Zb Q5 s k pos=Zb Q5 s (s.size+1) 0/\wr=w.iter s pos)
 case atStart=>exact⟨0,Ua,rfl,rfl⟩
 case round=>
  obtain⟨pos,hk,aa,rfl⟩:=hrel
  by_cases am:pos<s.size
  ·have qU:=fun ty=>run_next_any (P:=Tryz.prog) w s pos ty am;obtain⟨k,rfl⟩:∃k,gk=k+1:=⟨gk-1,Ua⟩;have cP:=Jqv s pos;rw [Zb,if_pos am] at aa;generalize (Utf8.decode s pos).1=rn at qU aa;generalize (Utf8.decode s pos).2=sz at qU aa cP
   cases hp:Q5 (rn:Int)
   ·rw [hp,if_neg Ul] at aa;have HR:=Nf aa;clear aa
    go_wp2_with (go_at_call 164;refine(Jm2 _ _).mono ?_;rintro r w1 ⟨rfl,rfl⟩)
    go_ret;exact⟨by rw [<-HR.out];rfl,Jc (Nt) _⟩
   ·rw [hp,if_pos rfl] at aa;have HR:=Nf aa;clear aa
    go_wp2_with (go_at_call 164;refine(Jm2 _ _).mono ?_;rintro r w1 ⟨rfl,rfl⟩)
    go_roundg k
    case measure=>omega
    case rel=>exact⟨_,Ua,HR.out,rfl⟩
  ·have qU:=fun ty=>run_next_end (P:=Tryz.prog) w s pos ty am;have fa:Zb Q5 s gk pos=s.size:=by cases gk <;> simp [Zb,am]
   have HR:=Nf (fa.symm.trans aa);clear aa fa
   go_wp2_with fail
   go_ret;exact⟨Kk (by rw [<-HR.out,Jhm]),Jc (Nt) _⟩
theorem Jt2 (e:Ex):∀(A:Option Addr) (cap:Nat) (most:Int) (w:World),Jt w e A cap->-1000000<=most->most<=1000000->
  Calls Tryz.prog 166 #[exV e A cap,.int .i64 most] w fun r w'=>r = .returned (.int .i64 (e.count most))/\Below w.heap.size w w':=by
 induction e using Ex.ind with
 | h e ih=>
 intro A cap most w he hm cI;have hl:=he.len;unfold maxLen at hl;obtain⟨bI,aD⟩:=hl;unfold exV
 go_enter Tryz.func166,Tryz.ntmps166
 go_wp2_with fail
 go_loopw [5,11] (fun m i wr=>∃(k:Nat) (m':Int),k<=e.sub.length/\i = .int .i64 k/\m = .int .i64 m'/\1<=m'/\m'<=max 1 most/\Ex.countL (e.sub.drop k) m' most=e.count most/\Below w.heap.size w wr) (fun _ i _=>e.sub.length-(intOf i).toNat)
 case atStart=>exact⟨0,1,Np,rfl,rfl,Ua,Ua,by simp [Ex.count_eq],Jb⟩
 case round=>
  obtain⟨k,m',hk,rfl,rfl,h0,h1,aa,ab⟩:=hrel
  by_cases am:k<e.sub.length
  ·have hx:e.sub[k]?=some e.sub[k]:=Ng am;have aj:e.sub[k]∈e.sub:=Nj am;have hd:e.sub.drop k=e.sub[k] :: e.sub.drop (k+1):=No am;generalize e.sub[k]=x at hx aj hd;obtain⟨b,off,A',cap',rfl,c0,c1,c2,c3,hs⟩:=(he.later ab).get hx;rw [hd,Ex.countL] at aa;have ct:=Ex.count_bd x (most-m');have ihx:=ih x aj
   by_cases qK:m'>=most
   ·rw [if_pos qK] at aa;have HR:=Nf aa;clear aa hd hx;exact Uda
   ·rw [if_neg qK] at aa;have HR:=Nf aa;clear aa hd hx
    go_wp2_with (go_at_call 166;refine(ihx A' cap' (most-m') _ (hs.later Jb) Ua Ua).mono ?_;rintro r w1 ⟨rfl,ac⟩)
    exact Ucm
  ·exact Ubs
def Kz (s:ByteArray):Bool:=if h:0<s.size then decide (s.size<=16) && Zh ((s[0]'h).toNat:Int) && decide (Zb Q5 s (s.size+1) 0=s.size) && !Jdo s else false
theorem Zf {a b:ByteArray} : (a.toList == b.toList)=true<->a=b:=by
 rw [beq_iff_eq,ByteArray.toList_eq,ByteArray.toList_eq];exact⟨fun h=>WideShapes.bytes_inj h,fun h=>Ti⟩
theorem Ju9 {a b:ByteArray} (h:a≠b):(a.toList == b.toList)=false:=by
 rw [<-Bool.not_eq_true,Zf];exact h
theorem Jmj (p:Int->Bool) (s:ByteArray):∀f pos,Zb p s f pos<=s.size
 | 0,_=>Ns _
 | f+1,pos=>by
  unfold Zb
  split
  ·split
   ·exact Jmj p s f _
   ·exact Ua
  ·exact Ns _
theorem Jfp {s:ByteArray} (h:0<s.size):s.toList.isEmpty=false:=by
 rw [ByteArray.toList_eq]
 cases h2:s.data.toList with
 | nil=>exfalso;rw [<-ByteArray.size_data,<-Array.length_toList,h2] at h;simp at h
 | cons=>rfl
theorem Je2 {s:ByteArray} (h:¬0<s.size):s=⟨#[]⟩:=by
 ext1;apply Array.eq_empty_of_size_eq_zero;rw [ByteArray.size_data];omega
theorem Jaf {s:ByteArray} (h:Kz s=true):s.size<=16:=by
 unfold Kz at h
 split at h
 ·simp at h;exact h.1.1.1
 ·exact Lt
theorem Qt (s:ByteArray) (w:World):Calls Tryz.prog 143 #[.string s] w fun r w'=>r = .returned (.bool (Kz s))/\Below w.heap.size w w':=by
 by_cases h0:0<s.size
 ·have he:=Jfp h0
  by_cases h1:s.size<=16
  ·have hb:s[0].toNat<256:=UInt8.toNat_lt _;have hv:Kz s=(Zh (s[0].toNat:Int) && decide (Zb Q5 s (s.size+1) 0=s.size) && !Jdo s):=Mi;have HV:=Nf hv;clear hv
   have hx:((s.extract 0 (Zb Q5 s (s.size+1) 0)).toList == s.toList)=decide (Zb Q5 s (s.size+1) 0=s.size):=by
    by_cases h:Zb Q5 s (s.size+1) 0=s.size
    ·rw [h,Jhm];simp
    ·rw [decide_eq_false h];refine Ju9 fun e=>?_;have:=congrArg ByteArray.size e;rw [ByteArray.size_extract] at this;have:=Jmj Q5 s (s.size+1) 0;exact Ua
   cases h2:Zh (s[0].toNat:Int) <;> cases h3:decide (Zb Q5 s (s.size+1) 0=s.size) <;> rw [h3] at hx <;> cases h4:Jdo s <;>
   ·rw [h2,h3,h4] at HV
    go_enter Tryz.func143,Tryz.ntmps143
    go_wp2_with (first|(go_at_call 162;refine(Jkp _ _).mono ?_;rintro r w1 ⟨rfl,rfl⟩)|(go_at_call 163;refine(Jsk _ _ U2).mono ?_;rintro r w1 ⟨rfl,ac⟩)|(go_at_call 165;refine(Jwp _ _).mono ?_;rintro r w1 ⟨rfl,rfl⟩))
    go_ret;exact⟨Jk Vi,Jb⟩
  ·have hv:Kz s=false:=Mi;have HV:=Nf hv;clear hv
   go_enter Tryz.func143,Tryz.ntmps143
   exact Ude
 ·have hv:Kz s=false:=by unfold Kz;rw [dif_neg h0]
  have HV:=Nf hv;clear hv;obtain rfl:=Je2 h0
  go_enter Tryz.func143,Tryz.ntmps143
  exact Ude
def Jw (k:Int):Int×Int×Int×Bool×Bool:=
 if k=1 then(0,0,2147483647,false,true)
 else if k=2 then(0,0,1,false,true)
 else if k=3 then(0,0,0,true,true)
 else if k=4 then(1,1,2,false,true)
 else if k=5 then(2,1,16,false,true)
 else if k=6 then(3,0,0,false,true)
 else if k=7 then(2,0,0,false,true)
 else if k=8 then(1,0,0,true,true)
 else if k=9 then(1,0,0,true,true)
 else if k=10 then(2,0,0,true,true)
 else(0,0,0,false,false)
def Jl (k n:Int) (s:ByteArray) (len:Nat):Bool:=
 (Jw k).2.2.2.2 && ((len:Int) == (Jw k).1) && !decide (n<(Jw k).2.1) && !decide ((Jw k).2.2.1<n) && ((Jw k).2.2.2.1 == Kz s) && ((Jw k).2.2.2.1 || s.toList.isEmpty)
namespace Ex
mutual
def formed:Ex->Bool
 | mk k n s l=>Jl k n s l.length && formedL l
def formedL:List Ex->Bool
 | []=>true
 | x :: l=>formed x && formedL l
end
theorem formed_eq (e:Ex):e.formed=(Jl e.kind e.n e.name e.sub.length && formedL e.sub):=by cases e;simp [formed,kind,n,name,sub]
def right (e:Ex):Int:=
 if 120<e.count 121 then 3 else if 12<e.depth then 17 else if e.formed then 0 else 4
theorem right_zero {e:Ex} : e.right=0<->e.count 121<=120/\e.depth<=12/\e.formed=true:=by
 unfold right
 split
 ·exact Ua
 ·split
  ·exact Ua
  ·split
   ·rename_i h;simp [h];omega
   ·rename_i h;simp [h]
def literal (e:Ex):Bool:=
 if e.right=0 then
  if e.kind=4/\e.n=1 then(match e.sub with|x :: _=>x.kind == 1 | []=>false) else(e.kind == 1 || e.kind == 2)
 else false
mutual
def same:Ex->Ex->Bool
 | mk k n s l,y=>k == y.kind && n == y.n && s.toList == y.name.toList && l.length == y.sub.length && sameL l y.sub
def sameL:List Ex->List Ex->Bool
 | [],_=>true
 | _ :: _,[]=>true
 | x :: l,y :: m=>same x y && sameL l m
end
theorem same_eq (a b:Ex):same a b=(a.kind == b.kind && a.n == b.n && a.name.toList == b.name.toList && a.sub.length == b.sub.length && sameL a.sub b.sub):=by
 cases a;simp [same,kind,n,name,sub]
end Ex
def Ke (v:Va) (own:Bool):Bool:=
 Kz v.name && (v.type == 1 || v.type == 2) && (if v.ck=0 then v.cn.toList.isEmpty else if v.ck=1\/v.ck=2 then own && Kz v.cn else false)
def eqB (q:Qe):Bool:=
 Kz q.name && q.e.right == 0 && (if q.delay=1 then q.first.literal else if q.delay=0\/q.delay=2 then q.first.same Ex.zero else false)
def Qw (p:Pr):Bool:=
 Kz p.name && p.ins.all (Ke · false) && p.outs.all (Ke · false) && p.locals.all (Ke · true) && p.eqs.all eqB
end Go.Proofs.YtknfcamdfdfoeaaGreatDoor
namespace Go.Proofs.YtknfcamdfdfoeaaGreatDoor
open Go.RowKit Go.Sort
def Jb7:Nat->Nat->List UInt8->List UInt8
 | 0,_,acc=>acc
 | f+1,n,acc=>if n / 10=0 then UInt8.ofNat (48+n % 10) :: acc else Jb7 f (n / 10) (UInt8.ofNat (48+n % 10) :: acc)
def Jgk (a:Int):List UInt8:=if a<0 then 45 :: Jb7 10 a.natAbs [] else Jb7 10 a.natAbs []
def Zn (a:Int):ByteArray:=⟨(Jgk a).toArray⟩
def Xy (l:List UInt8):List Value:=List.replicate (11-l.length) (.int .u8 0) ++ l.map (fun c=> .int .u8 c.toNat)
theorem Jn5 (n:Nat) (h:n<256):(UInt8.ofNat n).toNat=n:=Uj
theorem Js6 {l:List UInt8} (h:l.length<=11) {j:Nat} {c:UInt8} (hc:l[j]?=some c):(Xy l)[11-l.length+j]?=some (.int .u8 c.toNat):=by
 unfold Xy;rw [List.getElem?_append_right Ul];simp [hc]
theorem Jga {l:List UInt8} {x:Nat} (h:x+l.length<11):(Xy l)[x]?=some (.int .u8 0):=by
 unfold Xy;rw [List.getElem?_append_left Uj];simp [List.getElem?_replicate];omega
theorem Jhc {l:List UInt8} {x:Nat} {c:UInt8} {v:Int} (h:x+l.length=10) (hv:v=(c.toNat:Int)):(Xy l).set x (.int .u8 v)=Xy (c :: l):=by
 subst hv;unfold Xy;have e1:11-l.length=x+1:=Ua;have e2:11-(c :: l).length=x:=Uj;rw [e1,e2,List.set_append_left _ _ Ul];rw [List.replicate_succ',List.set_append_right _ _ Ul];exact Ul
theorem Jlh (l:List UInt8):∀(r:ByteArray),(l.map fun c:UInt8=>(c.toNat:Int)).foldl (fun r n=>r.push (UInt8.ofNat n.toNat)) r=⟨(r.data.toList ++ l).toArray⟩:=by
 induction l with
 | nil=>intro r;cases r;simp
 | cons c l ih=>
  intro r;rw [List.map_cons,List.foldl_cons,ih]
  congr 1
  simp
theorem Jje (w:World) (l:List UInt8) (hl:l.length<=11) (n c:Nat) (hn:n=l.length) :
  (convert 98 9 (.slice (some ⟨w.heap.size,11-l.length,none⟩) n c)).run Tryz.prog (w.alloc (.cells (Xy l).toArray 217)) = .ok (.string ⟨l.toArray⟩) (w.alloc (.cells (Xy l).toArray 217)):=by
 subst hn;rw [run_convert_bytes_string _ _ _ _ _ _ _ Tryz.underlying98 Tryz.underlying5 Tryz.underlying9]
 have oQ:(loadCells ⟨w.heap.size,11-l.length,none⟩ l.length).run Tryz.prog (w.alloc (.cells (Xy l).toArray 217)) = .ok ((l.map fun c:UInt8=>(c.toNat:Int)).map (Value.int .u8)).toArray (w.alloc (.cells (Xy l).toArray 217)):=by
  have:=run_loadCells_list (P:=Tryz.prog) (w.alloc (.cells (Xy l).toArray 217)) ⟨w.heap.size,11-l.length,none⟩ ((l.map fun c:UInt8=>(c.toNat:Int)).map (Value.int .u8)) (fun j v hj=>by
   have cQ:(⟨w.heap.size,11-l.length,none⟩:Addr).add j=⟨w.heap.size,11-l.length+j,none⟩:=Lq;rw [cQ,cell_of_row _ _ _ _ _ _ (heap_alloc_new w _)];simp only [List.map_map,List.getElem?_map,Option.map_eq_some_iff] at hj;obtain⟨c,hc,rfl⟩:=hj;simpa using Js6 hl hc)
  simpa using this
 rw [run_bytesToString _ _ _ _ _ oQ,Jlh];simp
theorem Jog:∀f m l,(Jb7 f m l).length<=f+l.length
 | 0,_,_=>by simp [Jb7]
 | f+1,m,l=>by
  unfold Jb7
  split
  ·exact Uj
  ·have:=Jog f (m / 10) (UInt8.ofNat (48+m % 10) :: l);simp only [Nl] at this;omega
theorem Jie (w:World) (y:Nat) (hy:y<11) (W:World):(Instr.sliceAt 217 (.pointer (some ⟨w.heap.size,0,none⟩)) (some (.int .i64 (y:Int))) none none).run Tryz.prog W = .ok (.slice (some ⟨w.heap.size,y,none⟩) (11-y) (11-y)) W:=by
 have hn:Tryz.prog.arrayLen 217=11:=Ug;have hs:(sizeOf (Tryz.prog.elem 217)).run Tryz.prog W = .ok 1 W:=Ug;rw [run_sliceAt_array_l W 217 ⟨w.heap.size,0,none⟩ Ug .i64 y Ua (by rw [hn];omega),hs];simp only [Result.andThen,slicedAt,hn,Int.toNat_natCast,Nat.mul_one];rw [if_neg Ua]
 congr 4
 unfold Addr.add
 split
 ·simp_all
 ·exact Ul
theorem Jtb (a:Int) (w:World) (h1 : -2147483648<=a) (h2:a<=2147483647) :
  Calls Tryz.prog 149 #[.int .i32 a] w fun r w'=>r = .returned (.string (Zn a))/\Below w.heap.size w w':=by
 by_cases h:a<0
 ·go_enter Tryz.func149,Tryz.ntmps149
  go_wp2_with fail
  go_loopg [4,5] 10 (fun f i n wr=>∃(m x:Nat) (ds:List UInt8),x=f/\1<=x/\x+ds.length=10/\m<10 ^ f/\i = .int .i64 ((x:Int)+1)/\n = .int .i64 m/\Jb7 f m ds=Jb7 10 a.natAbs []/\wr=w.alloc (.cells (Xy ds).toArray 217))
  case atStart=>exact⟨a.natAbs,10,[],rfl,Ua,rfl,Ua,rfl,by congr 1;omega,rfl,rfl⟩
  case round=>
   obtain⟨m,x,ds,rfl,hx0,hx,hm,rfl,rfl,aa,rfl⟩:=hrel;have ev:(Xy ds).toArray[x]?=some (.int .u8 0):=by simpa using Jga Ua
   have bW:(Xy ds).set x (.int .u8 (48+(m:Int) % 10))=Xy (UInt8.ofNat (48+m % 10) :: ds):=Jhc hx (by rw [Jn5 _ Ua];omega);have hx11:(x:Int)<11:=Ua;have xF:x<11:=Ua
   have xG:m<=10000000000:=by
    have:=Nat.pow_le_pow_right (n:=10) Ua (show x<=10 by omega);exact Ua
   obtain⟨y,rfl⟩:∃y,x=y+1:=⟨x-1,Ua⟩;have cI:m / 10<10 ^ y:=D9;rw [Jb7] at aa
   by_cases hd:m / 10=0
   ·rw [if_pos hd] at aa;generalize UInt8.ofNat (48+m % 10)=d at aa bW;have hcell2:(Xy (d :: ds)).toArray[y]?=some (.int .u8 0):=by simpa using Jga Uj
    have hset2:(Xy (d :: ds)).set y (.int .u8 45)=Xy (45 :: d :: ds):=Jhc Uj Gd;have hy11:(y:Int)<11:=Ua;have oR:y<11:=Ua;have dF:=Jie w y oR;have ky:=Jje w (45 :: d :: ds) Uj (11-y) (11-y) Uj;have e11:11-(45 :: d :: ds).length=y:=Uj;rw [e11] at ky;clear e11;have hv:Zn a=⟨(45 :: d :: ds).toArray⟩:=by unfold Zn Jgk;rw [if_pos Ua,<-aa]
    exact Uco
   ·exact Uft
 ·go_enter Tryz.func149,Tryz.ntmps149
  go_wp2_with fail
  go_loopg [4,5] 10 (fun f i n wr=>∃(m x:Nat) (ds:List UInt8),x=f/\1<=x/\x+ds.length=10/\m<10 ^ f/\i = .int .i64 ((x:Int)+1)/\n = .int .i64 m/\Jb7 f m ds=Jb7 10 a.natAbs []/\wr=w.alloc (.cells (Xy ds).toArray 217))
  case atStart=>exact⟨a.natAbs,10,[],rfl,Ua,rfl,Ua,rfl,by congr 1;omega,rfl,rfl⟩
  case round=>
   obtain⟨m,x,ds,rfl,hx0,hx,hm,rfl,rfl,aa,rfl⟩:=hrel;have ev:(Xy ds).toArray[x]?=some (.int .u8 0):=by simpa using Jga Ua
   have bW:(Xy ds).set x (.int .u8 (48+(m:Int) % 10))=Xy (UInt8.ofNat (48+m % 10) :: ds):=Jhc hx (by rw [Jn5 _ Ua];omega);have hx11:(x:Int)<11:=Ua;have xF:x<11:=Ua
   have xG:m<=10000000000:=by
    have:=Nat.pow_le_pow_right (n:=10) Ua (show x<=10 by omega);exact Ua
   obtain⟨y,rfl⟩:∃y,x=y+1:=⟨x-1,Ua⟩;have cI:m / 10<10 ^ y:=D9;rw [Jb7] at aa
   by_cases hd:m / 10=0
   ·rw [if_pos hd] at aa;generalize UInt8.ofNat (48+m % 10)=d at aa bW;have hy11:(y:Int)+1<11:=Ua;have oR:y+1<11:=Ua;have dF:=Jie w (y+1) oR;rw [show((y+1:Nat):Int)=(y:Int)+1 from by omega] at dF;have ky:=Jje w (d :: ds) Uj (10-y) (10-y) Uj;have e11:11-(d :: ds).length=y+1:=Uj;rw [e11] at ky;clear e11;have hv:Zn a=⟨(d :: ds).toArray⟩:=by unfold Zn Jgk;rw [if_neg Ua,<-aa]
    exact Uco
   ·exact Uft
end Go.Proofs.YtknfcamdfdfoeaaGreatDoor
namespace Go.Proofs.YtknfcamdfdfoeaaGreatDoor
open Go.RowKit
def Ja6 (n:Int):ByteArray:=
 if n=1 then⟨#[43]⟩
 else if n=2 then⟨#[45]⟩
 else if n=3 then⟨#[42]⟩
 else if n=4 then⟨#[47]⟩
 else if n=5 then⟨#[37]⟩
 else if n=6 then⟨#[60,60]⟩
 else if n=7 then⟨#[62,62]⟩
 else if n=8 then⟨#[38]⟩
 else if n=9 then⟨#[124]⟩
 else if n=10 then⟨#[94]⟩
 else if n=11 then⟨#[61]⟩
 else if n=12 then⟨#[60,62]⟩
 else if n=13 then⟨#[60]⟩
 else if n=14 then⟨#[60,61]⟩
 else if n=15 then⟨#[62]⟩
 else if n=16 then⟨#[62,61]⟩
 else⟨#[]⟩
def brk (k:Int) (t:ByteArray):ByteArray:=if k=1\/k=2\/k=3\/k=8\/k=9 then t else⟨#[40]⟩ ++ t ++ ⟨#[41]⟩
def Ye (k n:Int) (s:ByteArray) (ts:List ByteArray):ByteArray:=
 if k=1 then Zn n
 else if k=2 then(if n=0 then⟨#[102,97,108,115,101]⟩ else⟨#[116,114,117,101]⟩)
 else if k=4 then(if n=2 then⟨#[110,111,116,32]⟩ ++ ts.getD 0 ⟨#[]⟩ else⟨#[45]⟩ ++ ts.getD 0 ⟨#[]⟩)
 else if k=5 then ts.getD 0 ⟨#[]⟩ ++ ⟨#[32]⟩ ++ Ja6 n ++ ⟨#[32]⟩ ++ ts.getD 1 ⟨#[]⟩
 else if k=6 then⟨#[105,102,32]⟩ ++ ts.getD 0 ⟨#[]⟩ ++ ⟨#[32,116,104,101,110,32]⟩ ++ ts.getD 1 ⟨#[]⟩ ++ ⟨#[32,101,108,115,101,32]⟩ ++ ts.getD 2 ⟨#[]⟩
 else if k=7 then ts.getD 0 ⟨#[]⟩ ++ ⟨#[32,45,62,32]⟩ ++ ts.getD 1 ⟨#[]⟩
 else if k=8 then ts.getD 0 ⟨#[]⟩ ++ ⟨#[32,119,104,101,110,32]⟩ ++ s
 else if k=9 then ts.getD 0 ⟨#[]⟩ ++ ⟨#[32,117,110,108,101,115,115,32]⟩ ++ s
 else if k=10 then⟨#[109,101,114,103,101,32]⟩ ++ s ++ ⟨#[32]⟩ ++ ts.getD 0 ⟨#[]⟩ ++ ⟨#[32]⟩ ++ ts.getD 1 ⟨#[]⟩
 else s
namespace Ex
mutual
def showB:Ex->ByteArray
 | mk k n s l=>Ye k n s (showL (k == 6) l)
def showL (f:Bool):List Ex->List ByteArray
 | []=>[]
 | x :: l=>(if f then showB x else brk x.kind (showB x)) :: showL f l
end
theorem showB_eq (e:Ex):e.showB=Ye e.kind e.n e.name (showL (e.kind == 6) e.sub):=by cases e;simp [showB,kind,n,name,sub]
def partB (x:Ex):ByteArray:=brk x.kind x.showB
theorem showL_map (f:Bool) (l:List Ex):showL f l=l.map fun x=>if f then x.showB else x.partB:=by
 induction l with
 | nil=>simp [showL]
 | cons x l ih=>simp [showL,ih,partB]
theorem showL_len (f:Bool) (l:List Ex):(showL f l).length=l.length:=by simp [showL_map]
end Ex
theorem Kq (a b:ByteArray):(a ++ b).size=a.size+b.size:=by simp [ByteArray.size_append]
theorem Ko (l:Array UInt8):(ByteArray.mk l).size=l.size:=rfl
theorem Jkk (k:Int) (t:ByteArray):(brk k t).size<=t.size+2:=by
 unfold brk;split
 ·exact Ua
 ·exact Uk
theorem Jhr (n:Int):(Ja6 n).size<=2:=by
 unfold Ja6
 by_cases h1:n=1
 ·rw [if_pos h1];decide
 rw [if_neg h1]
 by_cases h2:n=2
 ·rw [if_pos h2];decide
 rw [if_neg h2]
 by_cases h3:n=3
 ·rw [if_pos h3];decide
 rw [if_neg h3]
 by_cases h4:n=4
 ·rw [if_pos h4];decide
 rw [if_neg h4]
 by_cases h5:n=5
 ·rw [if_pos h5];decide
 rw [if_neg h5]
 by_cases h6:n=6
 ·rw [if_pos h6];decide
 rw [if_neg h6]
 by_cases h7:n=7
 ·rw [if_pos h7];decide
 rw [if_neg h7]
 by_cases h8:n=8
 ·rw [if_pos h8];decide
 rw [if_neg h8]
 by_cases h9:n=9
 ·rw [if_pos h9];decide
 rw [if_neg h9]
 by_cases bM:n=10
 ·rw [if_pos bM];decide
 rw [if_neg bM]
 by_cases gh:n=11
 ·rw [if_pos gh];decide
 rw [if_neg gh]
 by_cases eG:n=12
 ·rw [if_pos eG];decide
 rw [if_neg eG]
 by_cases h13:n=13
 ·rw [if_pos h13];decide
 rw [if_neg h13]
 by_cases h14:n=14
 ·rw [if_pos h14];decide
 rw [if_neg h14]
 by_cases h15:n=15
 ·rw [if_pos h15];decide
 rw [if_neg h15]
 by_cases h16:n=16
 ·rw [if_pos h16];decide
 rw [if_neg h16];exact Ux
theorem Jqr (a:Int):(Zn a).size<=11:=by
 unfold Zn Jgk;rw [Ko];have:=Jog 10 a.natAbs []
 split <;> simp at this ⊢ <;> omega
theorem Jr4 {a b:Int} (h:(a == b)=true):a=b:=Ve
theorem Jgu {s:ByteArray} (h:Kz s=true\/s.toList.isEmpty=true):s.size<=16:=by
 rcases h with h|h
 ·exact Jaf h
 ·rw [ByteArray.toList_eq] at h
  have:s.data.size=0:=by
   rw [<-Array.length_toList,List.isEmpty_iff.1 h];rfl
  rw [<-ByteArray.size_data,this];omega
namespace Ex
theorem formed_sub {e x:Ex} (h:e.formed=true) (hx:x∈e.sub):x.formed=true:=by
 rw [formed_eq,Bool.and_eq_true] at h
 have:∀l:List Ex,formedL l=true->∀x∈l,x.formed=true:=by
  intro l
  induction l with
  | nil=>intro _ x hx;cases hx
  | cons y l ih=>
   intro h x hx;simp only [formedL,Bool.and_eq_true] at h
   rcases List.mem_cons.1 hx with rfl|hx
   ·exact h.1
   ·exact ih h.2 x hx
 exact this _ h.2 x hx
theorem Jp2 {k n:Int} {s:ByteArray} {len:Nat} (h:Jl k n s len=true):(len:Int)=(Jw k).1/\(Kz s=true\/s.toList.isEmpty=true):=by
 simp only [Jl,Bool.and_eq_true,Bool.or_eq_true] at h;refine⟨Jr4 h.1.1.1.1.2,?_⟩
 rcases h.2 with h2|h2
 ·have:=h.1.2;rw [h2] at this;exact .inl (by simpa using this.symm)
 ·exact .inr h2
theorem formed_kind {e:Ex} (h:e.formed=true):(e.sub.length:Int)=(Jw e.kind).1/\e.name.size<=16:=by
 rw [formed_eq,Bool.and_eq_true] at h;obtain⟨h1,h2⟩:=Jp2 h.1;exact⟨h1,Jgu h2⟩
theorem Jr5 (k n:Int) (s:ByteArray) (ts:List ByteArray) (hs:s.size<=16):(Ye k n s ts).size<=(ts.getD 0 ⟨#[]⟩).size+(ts.getD 1 ⟨#[]⟩).size+(ts.getD 2 ⟨#[]⟩).size+30:=by
 have h1:=Jqr n;have h2:=Jhr n;unfold Ye
 repeat' split
 all_goals try simp only [Kq,Ko,List.size_toArray,Nl,Nm]
 all_goals omega
theorem showB_size (e:Ex):e.formed=true->e.showB.size+2<=40 * e.size:=by
 induction e using ind with
 | h e ih=>
  intro hf;have hk:=(formed_kind hf);have hs:=Jr5 e.kind e.n e.name (showL (e.kind == 6) e.sub) hk.2;rw [<-showB_eq] at hs;rw [size_eq]
  have hl:e.sub.length<=3:=by
   have:=hk.1;unfold Jw at this
   repeat' split at this
   all_goals first|omega|(simp at this;omega)
  have hp:∀x∈e.sub,(if (e.kind == 6)=true then x.showB else x.partB).size<=40 * x.size:=by
   intro x hx;have:=ih x hx (formed_sub hf hx);have hb:=Jkk x.kind x.showB
   split
   ·exact Ua
   ·unfold partB;omega
  rw [showL_map] at hs;generalize aT:e.sub=l at hs hl hp
  match l,hl,hp with
  | [],_,_=>simp only [List.map_nil,List.getD_nil,Ko,List.size_toArray,Nm] at hs;simp only [sizeL];omega
  | [a],_,hp=>
   have ha:=hp a Ul;simp only [List.map_cons,List.map_nil,List.getD_cons_zero,List.getD_cons_succ,List.getD_nil,Ko,List.size_toArray,Nm] at hs;simp only [sizeL];omega
  | [a,b],_,hp=>
   have ha:=hp a Ul;have hb:=hp b Ul;simp only [List.map_cons,List.map_nil,List.getD_cons_zero,List.getD_cons_succ,List.getD_nil,Ko,List.size_toArray,Nm] at hs;simp only [sizeL];omega
  | [a,b,c],_,hp=>
   have ha:=hp a Ul;have hb:=hp b Ul;have hc:=hp c Ul;simp only [List.map_cons,List.map_nil,List.getD_cons_zero,List.getD_cons_succ,List.getD_nil,Ko,List.size_toArray,Nm] at hs;simp only [sizeL];omega
end Ex
def Jb9 (v:Va):ByteArray:=
 if v.ck=1 then(if v.type=2 then v.name ++ ⟨#[32,58,32,98,111,111,108]⟩ else v.name ++ ⟨#[32,58,32,105,110,116]⟩) ++ (⟨#[32,119,104,101,110,32]⟩ ++ v.cn)
 else if v.ck=2 then(if v.type=2 then v.name ++ ⟨#[32,58,32,98,111,111,108]⟩ else v.name ++ ⟨#[32,58,32,105,110,116]⟩) ++ (⟨#[32,117,110,108,101,115,115,32]⟩ ++ v.cn)
 else(if v.type=2 then v.name ++ ⟨#[32,58,32,98,111,111,108]⟩ else v.name ++ ⟨#[32,58,32,105,110,116]⟩)
def Yr:Nat->ByteArray->List Va->ByteArray
 | _,s,[]=>s
 | k,s,v :: l=>Yr (k+1) ((if 0<k then s ++ ⟨#[59,32]⟩ else s) ++ Jb9 v) l
def Y9 (l:List Va):ByteArray:=Yr 0 ⟨#[40]⟩ l ++ ⟨#[41]⟩
def Ym (p:Pr):ByteArray:=⟨#[110,111,100,101,32]⟩ ++ p.name ++ ⟨#[32]⟩ ++ Y9 p.ins ++ ⟨#[32,114,101,116,117,114,110,115,32]⟩ ++ Y9 p.outs ++ ⟨#[59,10]⟩
def Xr:ByteArray->List Va->ByteArray
 | s,[]=>s
 | s,v :: l=>Xr (s ++ (⟨#[32,32]⟩ ++ Jb9 v ++ ⟨#[59,10]⟩)) l
def Jhz (s:ByteArray) (q:Qe):ByteArray:=
 (if q.delay=1 then(s ++ (⟨#[32,32]⟩ ++ q.name ++ ⟨#[32,61,32]⟩)) ++ (q.first.showB ++ ⟨#[32,102,98,121,32]⟩) else if q.delay=2 then(s ++ (⟨#[32,32]⟩ ++ q.name ++ ⟨#[32,61,32]⟩)) ++ ⟨#[112,114,101,32]⟩ else s ++ (⟨#[32,32]⟩ ++ q.name ++ ⟨#[32,61,32]⟩)) ++ (q.e.showB ++ ⟨#[59,10]⟩)
def Zs:ByteArray->List Qe->ByteArray
 | s,[]=>s
 | s,q :: l=>Zs (Jhz s q) l
def Jal (p:Pr):ByteArray:=Zs (Xr (if 0<p.locals.length then Ym p ++ ⟨#[118,97,114,10]⟩ else Ym p) p.locals ++ ⟨#[108,101,116,10]⟩) p.eqs ++ ⟨#[116,101,108,10]⟩
def K5 (p:Pr):Int:=if Qw p=false then 4 else if 4096<(Jal p).size then 3 else 0
def Jb8 (v:Va):Prop:=v.name.size<=16/\v.cn.size<=16
theorem Jc9 {v:Va} (h:Jb8 v):(Jb9 v).size<=60:=by
 obtain⟨h1,h2⟩:=h;unfold Jb9
 repeat' split
 all_goals simp only [Kq,Ko,List.size_toArray,Nl,Nm]
 all_goals omega
theorem Jcl:∀(l:List Va),(∀v∈l,Jb8 v)->∀(k:Nat) (s:ByteArray),(Yr k s l).size<=s.size+62 * l.length
 | [],_,k,s=>by simp [Yr]
 | v :: l,h,k,s=>by
  have h1:=Jc9 (h v Ul);have:=Jcl l (fun x hx=>h x Fz) (k+1) ((if 0<k then s ++ ⟨#[59,32]⟩ else s) ++ Jb9 v);rw [Yr];refine Nat.le_trans this ?_;rw [Kq,Nl]
  split
  ·exact Uk
  ·exact Ua
theorem Jjv {l:List Va} (h:∀v∈l,Jb8 v):(Y9 l).size<=2+62 * l.length:=by
 have:=Jcl l h 0 ⟨#[40]⟩;unfold Y9;simp only [Kq,Ko,List.size_toArray,Nl,Nm] at this ⊢;exact Ua
theorem Jkm {v:Va} {own:Bool} (h:Ke v own=true):Jb8 v:=by
 unfold Ke at h;simp only [Bool.and_eq_true] at h;refine⟨Jaf h.1.1,?_⟩;have h2:=h.2
 split at h2
 ·exact Jgu (.inr h2)
 ·split at h2
  ·simp only [Bool.and_eq_true] at h2;exact Jaf h2.2
  ·simp at h2
theorem X4 {p:Pr} (h:Qw p=true):p.name.size<=16/\(∀v∈p.ins,Jb8 v)/\(∀v∈p.outs,Jb8 v)/\(∀v∈p.locals,Jb8 v)/\∀q∈p.eqs,eqB q=true:=by
 simp only [Qw,Bool.and_eq_true,List.all_eq_true] at h;exact⟨Jaf h.1.1.1.1,fun v hv=>Jkm (h.1.1.1.2 v hv),fun v hv=>Jkm (h.1.1.2 v hv),fun v hv=>Jkm (h.1.2 v hv),h.2⟩
theorem Jaq {q:Qe} (h:eqB q=true):q.name.size<=16/\q.e.formed=true/\q.e.size<=120/\(q.delay=1->q.first.formed=true/\q.first.size<=120)/\(q.delay=0\/q.delay=1\/q.delay=2):=by
 simp only [eqB,Bool.and_eq_true] at h;obtain⟨⟨h1,h2⟩,h3⟩:=h
 have small:∀e:Ex,e.right=0->e.formed=true/\e.size<=120:=by
  intro e he;have:=Ex.right_zero.1 he;have hs:=Ex.count_size e 121 Ua;exact⟨this.2.2,Ua⟩
 have tA:=small q.e Lg;refine⟨Jaf h1,tA.1,tA.2,fun hd=>?_,?_⟩
 ·rw [if_pos hd] at h3;unfold Ex.literal at h3
  split at h3
  ·rename_i hr;exact small _ hr
  ·simp at h3
 ·split at h3
  ·exact Ua
  ·split at h3
   ·exact Ua
   ·simp at h3
theorem Juy (e:Ex):∀(A:Option Addr) (cap:Nat) (w:World),Jt w e A cap->e.size<=1000000->
  Calls Tryz.prog 167 #[exV e A cap] w fun r w'=>r = .returned (.int .i64 e.depth)/\Below w.heap.size w w':=by
 induction e using Ex.ind with
 | h e ih=>
 intro A cap w he hz;have hl:=he.len;unfold maxLen at hl;obtain⟨bI,aD⟩:=hl;have qY:=Ex.depth_bd e;unfold exV
 go_enter Tryz.func167,Tryz.ntmps167
 go_wp2_with fail
 go_loopw [3,9] (fun m i wr=>∃(k:Nat) (m':Int),k<=e.sub.length/\i = .int .i64 k/\m = .int .i64 m'/\0<=m'/\m'<=1000000/\Ex.depthL (e.sub.drop k) m'+1=e.depth/\Below w.heap.size w wr) (fun _ i _=>e.sub.length-(intOf i).toNat)
 case atStart=>exact⟨0,0,Np,rfl,rfl,Ua,Ua,by simp [Ex.depth_eq],Jb⟩
 case round=>
  obtain⟨k,m',hk,rfl,rfl,h0,h1,aa,ab⟩:=hrel
  by_cases am:k<e.sub.length
  ·obtain⟨x,hx,aj,hd⟩:=Kl am;obtain⟨b,off,A',cap',rfl,c0,c1,c2,c3,hs⟩:=(he.later ab).get hx;rw [hd,Ex.depthL] at aa;have ct:=Ex.depth_bd x;have cE:=Ex.size_sub hx;have ihx:=ih x aj;have HR:=Nf aa;clear aa hd hx
   go_wp2_with (go_at_call 167;refine(ihx A' cap' _ (hs.later Jb) Ua).mono ?_;rintro r w1 ⟨rfl,ac⟩)
   go_roundw
   case rel=>exact⟨k+1,max m' x.depth,Ua,Up,Tb,Ua,Ua,HR.out,Jb⟩
   case measure=>simp [intOf];omega
  ·have bk:k=e.sub.length:=Ua;rw [bk,Nn] at aa;rw [Ex.depthL] at aa;have HR:=Nf aa;clear aa bk;exact Uda
theorem Jbm (k:Int) (w:World):Calls Tryz.prog 177 #[.int .i64 k] w fun r w'=>r = .returned (.tuple #[.int .i64 (Jw k).1,.int .i32 (Jw k).2.1,.int .i32 (Jw k).2.2.1,.bool (Jw k).2.2.2.1,.bool (Jw k).2.2.2.2])/\w=w':=by
 go_enter Tryz.func177,Tryz.ntmps177
 go_wp2_with fail
 all_goals (refine Nv (v:= .tuple #[.int .i64 (Jw k).1,.int .i32 (Jw k).2.1,.int .i32 (Jw k).2.2.1,.bool (Jw k).2.2.2.1,.bool (Jw k).2.2.2.2]) (by simp_all [results,Tryz.results177,go_sem,Jw]) rfl ⟨rfl,rfl⟩)
end Go.Proofs.YtknfcamdfdfoeaaGreatDoor
namespace Go.Proofs.YtknfcamdfdfoeaaGreatDoor
open Go.RowKit Go.Sort
theorem Jbf {a b:Int} (h:(a == b)=true):a=b:=Ve
theorem Jei {a b:Int} (h:(a != b)=false):a=b:=Ve
theorem Jgi {a b:Int} (h:(a != b)=false):(a == b)=true:=Ve
theorem Jgo {a b:Int} (h:(a != b)=true):(a == b)=false:=Ve
theorem Jw3 (e:Ex):∀(y:Ex) (A:Option Addr) (cap:Nat) (A2:Option Addr) (cap2:Nat) (w:World),Jt w e A cap->Jt w y A2 cap2->
  Calls Tryz.prog 147 #[exV e A cap,exV y A2 cap2] w fun r w'=>r = .returned (.bool (e.same y))/\Below w.heap.size w w':=by
 induction e using Ex.ind with
 | h e ih=>
 intro y A cap A2 cap2 w he hy;have hl:=he.len;have qM:=hy.len;unfold maxLen at hl qM;obtain⟨bI,aD⟩:=hl;obtain⟨fD,cG⟩:=qM;have hv:=Ex.same_eq e y;unfold exV
 cases h1:(e.kind != y.kind)
 case true=>
   rw [Jgo h1,Bool.false_and,Bool.false_and,Bool.false_and,Bool.false_and] at hv;exact Ucf
 rw [Jgi h1,Bool.true_and] at hv
 cases h2:(e.n != y.n)
 case true=>
   rw [Jgo h2,Bool.false_and,Bool.false_and,Bool.false_and] at hv;exact Ucf
 rw [Jgi h2,Bool.true_and] at hv
 cases h3:(e.name.toList == y.name.toList)
 case false=>
   rw [h3,Bool.false_and,Bool.false_and] at hv;exact Ucf
 rw [h3,Bool.true_and] at hv
 cases h4:((e.sub.length:Int) != y.sub.length)
 case true=>
   have oh:(e.sub.length == y.sub.length)=false:=by {simp at h4;simp;omega};rw [oh,Bool.false_and] at hv;clear oh
   exact Ucf
 have oh:e.sub.length=y.sub.length:=by have:=Jei h4;omega
 rw [oh,beq_self_eq_true,Bool.true_and] at hv;have HV:=Nf hv;clear hv;have H4:=Nf oh;clear oh
 go_enter Tryz.func147,Tryz.ntmps147
 go_wp2_with fail
 go_loopw [38] (fun i wr=>∃(k:Nat),k<=e.sub.length/\i = .int .i64 k/\Ex.sameL (e.sub.drop k) (y.sub.drop k)=e.same y/\wr.cell? ⟨w.heap.size+1,3,none⟩=some (.slice A2 y.sub.length cap2)/\Below w.heap.size w wr) (fun i _=>e.sub.length-(intOf i).toNat)
 case atStart=>exact⟨0,Np,rfl,Td,Uq,Jb⟩
 case round=>
  obtain⟨k,hk,rfl,aa,vV,ab⟩:=hrel;have gt:=Nu vV;dsimp only at gt;have hbz':=lt0 w wr
  by_cases am:k<e.sub.length
  ·have dO:k<y.sub.length:=by have:=H4.out;omega
   obtain⟨x,hx,aj,hd⟩:=Kl am;obtain⟨b,off,A',cap',rfl,c0,c1,c2,c3,hs⟩:=(he.later ab).get hx;have qh:y.sub[k]?=some y.sub[k]:=Ng dO;have gN:y.sub.drop k=y.sub[k] :: y.sub.drop (k+1):=No dO;generalize y.sub[k]=x2 at qh gN;obtain⟨b2,off2,A2',cap2',rfl,g0,g1,g2,g3,gq⟩:=(hy.later ab).get qh;rw [hd,gN,Ex.sameL] at aa;have ihx:=ih x aj;have aq:=Nu g0;dsimp only at aq;have iJ:b2<wr.heap.size+1:=Ua
   cases jN:x.same x2
   ·rw [jN] at aa;have HR:=Nf aa;clear aa hd gN hx qh
    go_wp2_with fail
    refine Jx Ug Ug (fun bj=>?_)
    repeat (quiet_step ((go_at_call 147;exact Calls.regrown_of (ihx x2 _ _ _ _ _ (hs.later Jb) (gq.later Jb)))))
    exact Ubt
   ·rw [jN] at aa;have HR:=Nf aa;clear aa hd gN hx qh
    go_wp2_with fail
    refine Jx Ug Ug (fun bj=>?_)
    repeat (quiet_step ((go_at_call 147;exact Calls.regrown_of (ihx x2 _ _ _ _ _ (hs.later Jb) (gq.later Jb)))))
    refine wpQuiet_nil ?_;intro wq au;replace au:=qbo au;obtain⟨au,dA,bh⟩:=au;clear bj
    (try simp at bh)
    go_wp2_with fail
    go_roundw
    case rel=>exact⟨k+1,Ua,Up,HR.out,Udo,Jb⟩
    case measure=>simp [intOf];omega
  ·exact Ubu
theorem Jtn (e:Ex):∀(A:Option Addr) (cap:Nat) (w:World),Jt w e A cap->
  Calls Tryz.prog 168 #[exV e A cap] w fun r w'=>r = .returned (.bool e.formed)/\Below w.heap.size w w':=by
 induction e using Ex.ind with
 | h e ih=>
 intro A cap w he;have hl:=he.len;unfold maxLen at hl;obtain⟨bI,aD⟩:=hl;have hv:=Ex.formed_eq e;unfold Jl at hv;unfold exV
 cases h1:(Jw e.kind).2.2.2.2
 case false=>
   simp only [h1,Bool.false_and] at hv;exact Ubj
 cases h2:((e.sub.length:Int) != (Jw e.kind).1)
 case true=>
   simp only [Jgo h2,Bool.false_and,Bool.and_false] at hv;exact Ubj
 cases h3:decide (e.n<(Jw e.kind).2.1)
 case true=>
   simp only [h3,Bool.false_and,Bool.and_false,Bool.not_true] at hv;exact Ubj
 cases h4:decide ((Jw e.kind).2.2.1<e.n)
 case true=>
   simp only [h4,Bool.false_and,Bool.and_false,Bool.not_true] at hv;exact Ubj
 replace hv:e.formed=(((Jw e.kind).2.2.2.1 == Kz e.name) && ((Jw e.kind).2.2.2.1 || e.name.toList.isEmpty) && Ex.formedL e.sub):=by
  rw [hv];simp only [h1,Jgi h2,h3,h4,Bool.not_false,Bool.true_and]
 cases h5:(Jw e.kind).2.2.2.1
 case false=>
  cases h6:Kz e.name
  case true=>
    simp only [h5,h6,Bool.false_beq,Bool.not_true,Bool.false_and] at hv;exact Ufv
  cases h7:e.name.toList.isEmpty
  case false=>
    simp only [h5,h6,h7,Bool.false_or,Bool.and_false,Bool.false_and] at hv;exact Ufv
  rw [h5,h6,h7] at hv;exact Uan
 case true=>
  cases h6:Kz e.name
  case false=>
    simp only [h5,h6,Bool.true_beq,Bool.false_and] at hv;exact Ufv
  rw [h5,h6] at hv;exact Uan
end Go.Proofs.YtknfcamdfdfoeaaGreatDoor
