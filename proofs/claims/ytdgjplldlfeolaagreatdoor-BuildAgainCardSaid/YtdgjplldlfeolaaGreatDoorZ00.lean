/- Lemmas. -/
import Derived.WalkKit
import Derived.WalkSpells
import Derived.WalkLawsBesides
import Derived.Deep.QuietTactic
import Derived.BigQuiet
import Derived.Deep.Draws
import Derived.Lib.Hide
import Derived.Deep.LoopGhost
import Derived.StillTailTactics
import Derived.Deep.RegionHeld3
import Derived.Deep.RegionWith
import Derived.Lib.QuietBelow
import Derived.Test.YtdgjplldlfeolaaGreatDoorRows
import Derived.Laws.RangeAny
import Derived.WideShapes
import Derived.Maps.Own
import Derived.Maps.OwnOps
import Derived.Maps.OwnSet
import Derived.Maps.Views
import Derived.StringKeys
import Derived.WalkArith
set_option linter.unusedVariables false
set_option linter.unusedSimpArgs false
set_option maxRecDepth 100000
set_option maxHeartbeats 64000000
namespace Go.Proofs.YtdgjplldlfeolaaGreatDoor
open Go.RowKit
inductive Ex where
 | mk (kind n:Int) (name:ByteArray) (sub:List Ex)
structure Va where
 name:ByteArray
 type:Int
 ck:Int
 cn:ByteArray
structure Qe where
 name:ByteArray
 delay:Int
 first:Ex
 e:Ex
structure Pr where
 name:ByteArray
 ins:List Va
 outs:List Va
 locals:List Va
 eqs:List Qe
def I64 (x:Int):Prop:=-9223372036854775808<=x/\x<=9223372036854775807
def I32 (x:Int):Prop:=-2147483648<=x/\x<=2147483647
namespace Ex
def kind:Ex->Int|mk k _ _ _=>k
def n:Ex->Int|mk _ n _ _=>n
def name:Ex->ByteArray|mk _ _ s _=>s
def sub:Ex->List Ex|mk _ _ _ l=>l
def zero:Ex:=mk 0 0 ⟨#[]⟩ []
mutual
def size:Ex->Nat
 | mk _ _ _ l=>sizeL l+1
def sizeL:List Ex->Nat
 | []=>0
 | x :: l=>size x+sizeL l
end
theorem size_eq (e:Ex):e.size=sizeL e.sub+1:=by cases e;simp [size,sub]
theorem size_mem:∀(l:List Ex) (k:Nat) (x:Ex),l[k]?=some x->x.size<=sizeL l
 | [],k,x,h=>by simp at h
 | y :: l,0,x,h=>by simp at h;subst h;simp [sizeL]
 | y :: l,k+1,x,h=>by
  have:=size_mem l k x (by simpa using h);simp [sizeL];omega
theorem size_sub {e x:Ex} {k:Nat} (h:e.sub[k]?=some x):x.size<e.size:=by
 have:=size_mem _ _ _ h;rw [size_eq e];omega
theorem ind {p:Ex->Prop} (h:∀e,(∀x∈e.sub,p x)->p e) (e:Ex):p e:=by
 have:∀n (e:Ex),e.size<=n->p e:=by
  intro n
  induction n with
  | zero=>intro e he;rw [size_eq] at he;omega
  | succ n ih=>
   intro e he;refine h e fun x hx=>ih x ?_;obtain⟨k,hk⟩:=List.mem_iff_getElem?.1 hx;have:=size_sub hk;omega
 exact this _ e (Nat.le_refl _)
mutual
def OK:Ex->Prop
 | mk k n s l=>I64 k/\I32 n/\s.size<=maxLen/\OKL l
def OKL:List Ex->Prop
 | []=>True
 | x :: l=>OK x/\OKL l
end
theorem OKL_mem:∀ {l:List Ex},OKL l->∀x∈l,OK x
 | [],_,x,hx=>by cases hx
 | y :: l,h,x,hx=>by
  simp only [OKL] at h
  rcases List.mem_cons.1 hx with rfl|hx
  ·exact h.1
  ·exact OKL_mem h.2 x hx
theorem OK_sub {e x:Ex} (h:OK e) (hx:x∈e.sub):OK x:=by
 cases e;simp only [OK,sub] at *;exact OKL_mem h.2.2.2 x hx
mutual
def count:Ex->Int->Int
 | mk _ _ _ l,most=>countL l 1 most
def countL:List Ex->Int->Int->Int
 | [],n,_=>n
 | x :: l,n,most=>if n>=most then n else countL l (n+count x (most-n)) most
end
theorem count_eq (e:Ex) (most:Int):e.count most=countL e.sub 1 most:=by cases e;simp [count,sub]
theorem Jh1:∀(l:List Ex),(∀x∈l,∀m,1<=count x m/\count x m<=max 1 m)->∀n m,1<=n->n<=max 1 m->n<=countL l n m/\countL l n m<=max 1 m
 | [],_,n,m,h1,h2=>by simp [countL];omega
 | x :: l,hx,n,m,h1,h2=>by
  simp only [countL]
  split
  ·exact⟨by omega,by omega⟩
  ·have:=hx x (by simp) (m-n);have:=Jh1 l (fun y hy=>hx y (by simp [hy])) (n+count x (m-n)) m (by omega) (by omega);exact⟨by omega,by omega⟩
theorem count_bd (e:Ex):∀m,1<=count e m/\count e m<=max 1 m:=by
 induction e using ind with
 | h e ih=>
  intro m;rw [count_eq];have:=Jh1 e.sub ih 1 m (by omega) (by omega);exact⟨by omega,by omega⟩
theorem Jjc:∀(l:List Ex),(∀x∈l,∀m,count x m<m->count x m=x.size)->∀n m,1<=n->countL l n m<m->countL l n m=n+sizeL l
 | [],_,n,m,_,h=>by simp [countL,sizeL]
 | x :: l,hx,n,m,h1,h=>by
  simp only [countL,sizeL] at h ⊢
  split at h
  ·omega
  ·rename_i qK;rw [if_neg qK];have hb:=count_bd x (m-n);have hl:=Jh1 l (fun y _=>count_bd y) (n+count x (m-n)) m (by omega) (by omega);have:=hx x (by simp) (m-n) (by omega);have:=Jjc l (fun y hy=>hx y (by simp [hy])) (n+count x (m-n)) m (by omega) h;omega
theorem count_size (e:Ex):∀m,count e m<m->count e m=e.size:=by
 induction e using ind with
 | h e ih=>
  intro m h;rw [count_eq] at h ⊢;rw [Jjc e.sub ih 1 m (by omega) h,size_eq];omega
mutual
def depth:Ex->Int
 | mk _ _ _ l=>depthL l 0+1
def depthL:List Ex->Int->Int
 | [],n=>n
 | x :: l,n=>depthL l (max n (depth x))
end
theorem depth_eq (e:Ex):e.depth=depthL e.sub 0+1:=by cases e;simp [depth,sub]
theorem Jnm:∀(l:List Ex),(∀x∈l,1<=depth x/\depth x<=x.size)->∀n,n<=depthL l n/\depthL l n<=max n (sizeL l)
 | [],_,n=>by simp [depthL];omega
 | x :: l,hx,n=>by
  have:=hx x (by simp);have:=Jnm l (fun y hy=>hx y (by simp [hy])) (max n (depth x));simp only [depthL,sizeL];omega
theorem depth_bd (e:Ex):1<=depth e/\depth e<=e.size:=by
 induction e using ind with
 | h e ih=>
  rw [depth_eq,size_eq];have:=Jnm e.sub ih 0;omega
end Ex
end Go.Proofs.YtdgjplldlfeolaaGreatDoor
namespace Go.Proofs.YtdgjplldlfeolaaGreatDoor
open Go.RowKit Go.Sort
theorem Jd {w a b:World} (h:Below w.heap.size w a) (k:Below a.heap.size a b):Below w.heap.size w b:=h.trans (k.mono h.size)
theorem Jh {w a:World} (h:Below w.heap.size w a):Below w.heap.size w a.drew:=h.drew
theorem J8 {w a:World} (h:Below w.heap.size w a) (n:Nat):Below w.heap.size w (a.drewN n):=⟨h.os,h.tape,h.output,h.size,h.block⟩
theorem Jc {w a:World} (h:Below w.heap.size w a) (o:Obj):Below w.heap.size w (a.alloc o):=h.alloc h.size o
theorem Jb {n:Nat} {a b:World} (h:Below n a b:=by repeat (first|exact Below.refl _ _|(with_reducible assumption)|refine Jd ?_ (by with_reducible assumption)|refine Jd ?_ (below_regrown _ _ _)|refine Jh ?_|refine J8 ?_ _|refine Jc ?_ _|refine Jn ?_ (by with_reducible assumption) (by omega))):Below n a b:=h
theorem Km {n:Nat} {a b:World} (h:Below n a b:=by repeat (first|exact Below.refl _ _|(with_reducible assumption)|refine Jd ?_ (by with_reducible assumption)|refine Below.setCell ?_ (by simp) _|refine Jc ?_ _|refine Jn ?_ (by with_reducible assumption) (by omega))):Below n a b:=h
theorem Jlo {n:Nat} {a b:World} (h:Below n a b:=by(repeat refine Jh ?_);repeat (first|exact Below.refl _ _|(with_reducible assumption)|refine Jd ?_ (by with_reducible assumption)|refine Below.setCell ?_ (by simp <;> omega) _|refine Jc ?_ _|refine Jh ?_|refine Jn ?_ (by with_reducible assumption) (by omega))):Below n a b:=h
theorem lt0 (a b:World) (h:a.heap.size<b.heap.size:=by omega):a.heap.size<b.heap.size:=h
theorem ltA (a:World) (k:Nat) (b:World) (h:a.heap.size+k<b.heap.size:=by omega):a.heap.size+k<b.heap.size:=h
theorem Ja {w a:World} (h:Below w.heap.size w a) {p:Addr} {v:Value} (hc:w.cell? p=some v):a.cell? p=some v:=by
 rw [h.cell (block_lt_of_cell hc)];exact hc
theorem Jg {W w1:World} (hb:Below W.heap.size W w1):∀b o,b<W.heap.size->w1.cell? ⟨b,o,none⟩=W.cell? ⟨b,o,none⟩:=fun b o h=>hb.cell (p:=⟨b,o,none⟩) h
theorem aft {W w1:World} (hb:Below W.heap.size W w1):(∀b o,b<W.heap.size->w1.cell? ⟨b,o,none⟩=W.cell? ⟨b,o,none⟩)/\W.heap.size<=w1.heap.size:=⟨Jg hb,hb.size⟩
theorem alt {W w1:World} (hb:Below W.heap.size W w1):∀n,n<W.heap.size->n<w1.heap.size:=fun _ hn=>Nat.lt_of_lt_of_le hn hb.size
theorem mo {P:Program} {f:FuncId} {args:Array Value} {w:World} {v:Value} {K:Ending->World->Prop} (h:Calls P f args w fun r w'=>r = .returned v/\Below w.heap.size w w')
  (k:∀w1,Below w.heap.size w w1->(∀b o,b<w.heap.size->w1.cell? ⟨b,o,none⟩=w.cell? ⟨b,o,none⟩)->w.heap.size<=w1.heap.size->(∀n,n<w.heap.size->n<w1.heap.size)->K (.returned v) w1):Calls P f args w K:=
 h.mono fun r w1 ⟨hr,hb⟩=>hr ▸ k w1 hb (Jg hb) hb.size fun n hn=>Nat.lt_of_lt_of_le hn hb.size
theorem Kl {α:Type} {l:List α} {k:Nat} (h:k<l.length):∃x,l[k]?=some x/\x∈l/\l.drop k=x :: l.drop (k+1):=⟨l[k],List.getElem?_eq_getElem h,List.getElem_mem h,List.drop_eq_getElem_cons h⟩
theorem Jf {W w1:World} (hb:Below W.heap.size W w1):∀b o,b<W.heap.size->w1.frozen? ⟨b,o,none⟩=W.frozen? ⟨b,o,none⟩:=fun b o h=>hb.frozen (p:=⟨b,o,none⟩) h
theorem Jo {P:Program} {c:Code} {Q:Exit->Act->World->Prop} {a:Act} {W:World} (h:∀W0,W0=W->c.wp P Q a W0):c.wp P Q a W:=h W rfl
theorem J4 {w:World} {o:Obj} {p:Addr} {v:Value} (hc:w.cell? p=some v):(w.alloc o).cell? p=some v:=Ja (Jc (Below.refl _ _) o) hc
theorem Zw {w:World} {p:Addr} {v:Value} (hc:w.cell? p=some v):w.drew.cell? p=some v:=hc
theorem Jx {P:Program} {id:Nat} {Q:Exit->Act->World->Prop} {a:Act} {w:World} {l:List Oper} (hm:P.follows .mixedOrders=true) (hB:Region.lexB .any l.toArray=true)
  (h:(∀(d:Nat) (os:Array Obj) (p:Addr),p.block<w.heap.size->(grow (redrawn w d) os).cell? p=w.cell? p)->
   wpQuiet P l.toArray (fun w'=>∃p:Regrown,w'=grow (redrawn w p.d) p.os) (fun a'=>∀w',(∃p:Regrown,w'=grow (redrawn w p.d) p.os)->Q .normal a' w') l a):(Code.region id l.toArray true).wp P Q a w:=
 wp_region_quiet_below hm hB (h fun d os _ hp=>(below_regrown w d os).cell hp)
theorem Jfg {w w':World} (h:∃p:Regrown,w'=grow (redrawn w p.d) p.os):Below w.heap.size w w':=by
 obtain⟨p,rfl⟩:=h;exact below_regrown w p.d p.os
theorem qbo {w w':World} (h:∃p:Regrown,w'=grow (redrawn w p.d) p.os):Below w.heap.size w w'/\(∀b o,b<w.heap.size->w'.cell? ⟨b,o,none⟩=w.cell? ⟨b,o,none⟩)/\w.heap.size<=w'.heap.size:=⟨Jfg h,Jg (Jfg h),(Jfg h).size⟩
mutual
def Jt (w:World):Ex->Option Addr->Nat->Prop
 | .mk _ _ _ l,A,cap=>l.length<=cap/\cap<=maxLen/\(0<l.length->∃b off,A=some ⟨b,off,none⟩/\Xv w b l off)
def Xv (w:World) (b:Nat):List Ex->Nat->Prop
 | [],_=>True
 | e :: l,off=>(∃A cap,w.cell? ⟨b,off,none⟩=some (.int .i64 e.kind)/\w.cell? ⟨b,off+1,none⟩=some (.int .i32 e.n)/\w.cell? ⟨b,off+2,none⟩=some (.string e.name)/\
   w.cell? ⟨b,off+3,none⟩=some (.slice A e.sub.length cap)/\Jt w e A cap)/\Xv w b l (off+4)
end
theorem Jao {w:World} {e:Ex} {A:Option Addr} {cap:Nat} : Jt w e A cap<->e.sub.length<=cap/\cap<=maxLen/\(0<e.sub.length->∃b off,A=some ⟨b,off,none⟩/\Xv w b e.sub off):=by
 cases e;simp [Jt,Ex.sub]
theorem Xv.get {w:World} {b:Nat} : ∀ {l:List Ex} {off k:Nat} {x:Ex},Xv w b l off->l[k]?=some x->
  ∃A cap,w.cell? ⟨b,off+k * 4,none⟩=some (.int .i64 x.kind)/\w.cell? ⟨b,off+k * 4+1,none⟩=some (.int .i32 x.n)/\w.cell? ⟨b,off+k * 4+2,none⟩=some (.string x.name)/\
   w.cell? ⟨b,off+k * 4+3,none⟩=some (.slice A x.sub.length cap)/\Jt w x A cap
 | [],off,k,x,_,h=>by simp at h
 | e :: l,off,0,x,h,hk=>by
  simp at hk;subst hk;simp only [Xv] at h;simpa using h.1
 | e :: l,off,k+1,x,h,hk=>by
  simp only [Xv] at h;have:=h.2.get (k:=k) (by simpa using hk);have e1:off+4+k * 4=off+(k+1) * 4:=by omega
  rwa [e1] at this
mutual
theorem Jt.keep {w w':World} (hw:∀ {p:Addr} {v:Value},w.cell? p=some v->w'.cell? p=some v):∀(e:Ex) {A:Option Addr} {cap:Nat},Jt w e A cap->Jt w' e A cap
 | .mk _ _ _ l,A,cap,h=>by
  simp only [Jt] at h ⊢;refine⟨h.1,h.2.1,fun hl=>?_⟩;obtain⟨b,off,hA,hr⟩:=h.2.2 hl;exact⟨b,off,hA,Xv.keep hw l hr⟩
theorem Xv.keep {w w':World} (hw:∀ {p:Addr} {v:Value},w.cell? p=some v->w'.cell? p=some v) {b:Nat} : ∀(l:List Ex) {off:Nat},Xv w b l off->Xv w' b l off
 | [],off,_=>by simp [Xv]
 | e :: l,off,h=>by
  simp only [Xv] at h ⊢;obtain⟨⟨A,cap,h0,h1,h2,h3,h4⟩,hr⟩:=h;exact⟨⟨A,cap,hw h0,hw h1,hw h2,hw h3,Jt.keep hw e h4⟩,Xv.keep hw l hr⟩
end
theorem Jt.later {w w':World} {e:Ex} {A:Option Addr} {cap:Nat} (h:Jt w e A cap) (hb:Below w.heap.size w w'):Jt w' e A cap:=Jt.keep (fun hc=>Ja hb hc) e h
theorem Jt.get {w:World} {e x:Ex} {A:Option Addr} {cap k:Nat} (h:Jt w e A cap) (hk:e.sub[k]?=some x):∃b off A' cap',A=some ⟨b,off,none⟩/\
  w.cell? ⟨b,off+k * 4,none⟩=some (.int .i64 x.kind)/\w.cell? ⟨b,off+k * 4+1,none⟩=some (.int .i32 x.n)/\w.cell? ⟨b,off+k * 4+2,none⟩=some (.string x.name)/\
   w.cell? ⟨b,off+k * 4+3,none⟩=some (.slice A' x.sub.length cap')/\Jt w x A' cap':=by
 rw [Jao] at h;have am:k<e.sub.length:=(List.getElem?_eq_some_iff.1 hk).1;obtain⟨b,off,hA,hr⟩:=h.2.2 (by omega);obtain⟨A',cap',h0,h1,h2,h3,h4⟩:=hr.get hk;exact⟨b,off,A',cap',hA,h0,h1,h2,h3,h4⟩
theorem Jt.len {w:World} {e:Ex} {A:Option Addr} {cap:Nat} (h:Jt w e A cap):e.sub.length<=cap/\cap<=maxLen:=by
 rw [Jao] at h;exact⟨h.1,h.2.1⟩
theorem Jm {k:IntKind} {a b:Int} (h:a=b):Ending.returned (.int k a) = .returned (.int k b):=by rw [h]
theorem Jk {a b:Bool} (h:a=b):Ending.returned (.bool a) = .returned (.bool b):=by rw [h]
theorem Kk {a b:ByteArray} (h:a=b):Ending.returned (.string a) = .returned (.string b):=by rw [h]
def exV (e:Ex) (A:Option Addr) (cap:Nat):Value:= .agg #[.int .i64 e.kind,.int .i32 e.n,.string e.name,.slice A e.sub.length cap]
structure Jfc (w:World) (b off:Nat) (v:Va):Prop where
 c0:w.cell? ⟨b,off,none⟩=some (.string v.name)
 c1:w.cell? ⟨b,off+1,none⟩=some (.int .i64 v.type)
 c2:w.cell? ⟨b,off+2,none⟩=some (.int .i64 v.ck)
 c3:w.cell? ⟨b,off+3,none⟩=some (.string v.cn)
def vaV (v:Va):Value:= .agg #[.string v.name,.int .i64 v.type,.int .i64 v.ck,.string v.cn]
def Ju (w:World) (l:List Va) (A:Option Addr) (cap:Nat):Prop:=
 l.length<=cap/\cap<=maxLen/\(0<l.length->∃b off,A=some ⟨b,off,none⟩/\∀k v,l[k]?=some v->Jfc w b (off+k * 4) v)
structure Jgf (w:World) (b off:Nat) (q:Qe) (A1:Option Addr) (c1:Nat) (A2:Option Addr) (c2:Nat):Prop where
 g0:w.cell? ⟨b,off,none⟩=some (.string q.name)
 g1:w.cell? ⟨b,off+1,none⟩=some (.int .i64 q.delay)
 g2:w.cell? ⟨b,off+2,none⟩=some (.int .i64 q.first.kind)
 g3:w.cell? ⟨b,off+3,none⟩=some (.int .i32 q.first.n)
 g4:w.cell? ⟨b,off+4,none⟩=some (.string q.first.name)
 g5:w.cell? ⟨b,off+5,none⟩=some (.slice A1 q.first.sub.length c1)
 g6:w.cell? ⟨b,off+6,none⟩=some (.int .i64 q.e.kind)
 g7:w.cell? ⟨b,off+7,none⟩=some (.int .i32 q.e.n)
 g8:w.cell? ⟨b,off+8,none⟩=some (.string q.e.name)
 g9:w.cell? ⟨b,off+9,none⟩=some (.slice A2 q.e.sub.length c2)
 s1:Jt w q.first A1 c1
 s2:Jt w q.e A2 c2
def qeV (q:Qe) (A1:Option Addr) (c1:Nat) (A2:Option Addr) (c2:Nat):Value:=
 .agg #[.string q.name,.int .i64 q.delay,.int .i64 q.first.kind,.int .i32 q.first.n,.string q.first.name,.slice A1 q.first.sub.length c1,.int .i64 q.e.kind,.int .i32 q.e.n,.string q.e.name,.slice A2 q.e.sub.length c2]
def Jap (w:World) (l:List Qe) (A:Option Addr) (cap:Nat):Prop:=
 l.length<=cap/\cap<=maxLen/\(0<l.length->∃b off,A=some ⟨b,off,none⟩/\∀k q,l[k]?=some q->∃A1 c1 A2 c2,Jgf w b (off+k * 10) q A1 c1 A2 c2)
theorem Jfc.later {w w':World} {b off:Nat} {v:Va} (h:Jfc w b off v) (hb:Below w.heap.size w w'):Jfc w' b off v:=
 ⟨Ja hb h.c0,Ja hb h.c1,Ja hb h.c2,Ja hb h.c3⟩
theorem Ju.later {w w':World} {l:List Va} {A:Option Addr} {cap:Nat} (h:Ju w l A cap) (hb:Below w.heap.size w w'):Ju w' l A cap:=
 ⟨h.1,h.2.1,fun hl=>by
  obtain⟨b,off,hA,hr⟩:=h.2.2 hl;exact⟨b,off,hA,fun k v hk=>(hr k v hk).later hb⟩⟩
theorem Ju.get {w:World} {l:List Va} {A:Option Addr} {cap k:Nat} {v:Va} (h:Ju w l A cap) (hk:l[k]?=some v):∃b off,A=some ⟨b,off,none⟩/\b<w.heap.size/\Jfc w b (off+k * 4) v:=by
 have am:k<l.length:=(List.getElem?_eq_some_iff.1 hk).1;obtain⟨b,off,hA,hr⟩:=h.2.2 (by omega);exact⟨b,off,hA,block_lt_of_cell (hr k v hk).c0,hr k v hk⟩
theorem Ju.len {w:World} {l:List Va} {A:Option Addr} {cap:Nat} (h:Ju w l A cap):l.length<=cap/\cap<=maxLen:=⟨h.1,h.2.1⟩
theorem Jgf.later {w w':World} {b off:Nat} {q:Qe} {A1:Option Addr} {c1:Nat} {A2:Option Addr} {c2:Nat} (h:Jgf w b off q A1 c1 A2 c2) (hb:Below w.heap.size w w'):Jgf w' b off q A1 c1 A2 c2:=
 ⟨Ja hb h.g0,Ja hb h.g1,Ja hb h.g2,Ja hb h.g3,Ja hb h.g4,Ja hb h.g5,Ja hb h.g6,Ja hb h.g7,Ja hb h.g8,Ja hb h.g9,h.s1.later hb,h.s2.later hb⟩
theorem Jap.later {w w':World} {l:List Qe} {A:Option Addr} {cap:Nat} (h:Jap w l A cap) (hb:Below w.heap.size w w'):Jap w' l A cap:=
 ⟨h.1,h.2.1,fun hl=>by
  obtain⟨b,off,hA,hr⟩:=h.2.2 hl
  exact⟨b,off,hA,fun k v hk=>by
   obtain⟨A1,c1,A2,c2,h⟩:=hr k v hk;exact⟨A1,c1,A2,c2,h.later hb⟩⟩⟩
theorem Jap.get {w:World} {l:List Qe} {A:Option Addr} {cap k:Nat} {q:Qe} (h:Jap w l A cap) (hk:l[k]?=some q):∃b off A1 c1 A2 c2,A=some ⟨b,off,none⟩/\b<w.heap.size/\Jgf w b (off+k * 10) q A1 c1 A2 c2:=by
 have am:k<l.length:=(List.getElem?_eq_some_iff.1 hk).1;obtain⟨b,off,hA,hr⟩:=h.2.2 (by omega);obtain⟨A1,c1,A2,c2,h⟩:=hr k q hk;exact⟨b,off,A1,c1,A2,c2,hA,block_lt_of_cell h.g0,h⟩
theorem Jap.len {w:World} {l:List Qe} {A:Option Addr} {cap:Nat} (h:Jap w l A cap):l.length<=cap/\cap<=maxLen:=⟨h.1,h.2.1⟩
structure PrA where
 A1:Option Addr
 c1:Nat
 A2:Option Addr
 c2:Nat
 A3:Option Addr
 c3:Nat
 A4:Option Addr
 c4:Nat
structure Kr (w:World) (p:Pr) (a:PrA):Prop where
 ins:Ju w p.ins a.A1 a.c1
 outs:Ju w p.outs a.A2 a.c2
 locals:Ju w p.locals a.A3 a.c3
 eqs:Jap w p.eqs a.A4 a.c4
theorem Kr.later {w w':World} {p:Pr} {a:PrA} (h:Kr w p a) (hb:Below w.heap.size w w'):Kr w' p a:=⟨h.ins.later hb,h.outs.later hb,h.locals.later hb,h.eqs.later hb⟩
def prV (p:Pr) (a:PrA):Value:= .agg #[.string p.name,.slice a.A1 p.ins.length a.c1,.slice a.A2 p.outs.length a.c2,.slice a.A3 p.locals.length a.c3,.slice a.A4 p.eqs.length a.c4]
end Go.Proofs.YtdgjplldlfeolaaGreatDoor
namespace Go.Proofs.YtdgjplldlfeolaaGreatDoor
open Go.RowKit
def Zh (c:Int):Bool:=decide (97<=c/\c<=122)
def Jbz (c:Int):Bool:=decide (48<=c/\c<=57)
def Q5 (c:Int):Bool:=Zh c || Jbz c || decide (c=95)
theorem Jkp (c:Int) (w:World):Calls Tryz.prog 77 #[.int .i32 c] w fun r w'=>r = .returned (.bool (Zh c))/\w=w':=by
 unfold Zh
 by_cases h:97<=c
 ·go_enter Tryz.func77,Tryz.ntmps77
  go_wp2_with fail
  go_ret;exact⟨Jk (by simp [h]),rfl⟩
 ·go_enter Tryz.func77,Tryz.ntmps77
  go_wp2_with fail
  go_ret;exact⟨Jk (by simp;omega),rfl⟩
theorem Ju5 (c:Int) (w:World):Calls Tryz.prog 80 #[.int .i32 c] w fun r w'=>r = .returned (.bool (Jbz c))/\w=w':=by
 unfold Jbz
 by_cases h:48<=c
 ·go_enter Tryz.func80,Tryz.ntmps80
  go_wp2_with fail
  go_ret;exact⟨Jk (by simp [h]),rfl⟩
 ·go_enter Tryz.func80,Tryz.ntmps80
  go_wp2_with fail
  go_ret;exact⟨Jk (by simp;omega),rfl⟩
theorem Jm2 (c:Int) (w:World):Calls Tryz.prog 78 #[.int .i32 c] w fun r w'=>r = .returned (.bool (Q5 c))/\w=w':=by
 unfold Q5
 cases h:Zh c <;> cases h2:Jbz c <;>
 ·go_enter Tryz.func78,Tryz.ntmps78
  go_wp2_with (first|(go_at_call 77;refine(Jkp _ _).mono ?_;rintro r w1 ⟨rfl,rfl⟩)|(go_at_call 80;refine(Ju5 _ _).mono ?_;rintro r w1 ⟨rfl,rfl⟩))
  go_ret;exact⟨Jk (by first|rfl|(rw [Bool.eq_iff_iff];simp)),rfl⟩
def Jdo (s:ByteArray):Bool:=s.toList == [110,111,100,101] || s.toList == [114,101,116,117,114,110,115] || s.toList == [118,97,114] || s.toList == [108,101,116] || s.toList == [116,101,108] || s.toList == [105,102] || s.toList == [116,104,101,110] || s.toList == [101,108,115,101] || s.toList == [102,98,121] || s.toList == [112,114,101] || s.toList == [119,104,101,110] || s.toList == [117,110,108,101,115,115] || s.toList == [109,101,114,103,101] || s.toList == [110,111,116] || s.toList == [116,114,117,101] || s.toList == [102,97,108,115,101] || s.toList == [105,110,116] || s.toList == [98,111,111,108]
theorem Jwp (s:ByteArray) (w:World):Calls Tryz.prog 79 #[.string s] w fun r w'=>r = .returned (.bool (Jdo s))/\w=w':=by
 go_enter Tryz.func79,Tryz.ntmps79
 go_wp2_with fail
 all_goals first
  | (exfalso;simp_all;done)
  | (go_ret;exact⟨Jk (by simp [Jdo, *]),rfl⟩)
def Zb (p:Int->Bool) (s:ByteArray):Nat->Nat->Nat
 | 0,_=>s.size
 | fuel+1,pos=>if pos<s.size then(if p ((Utf8.decode s pos).1:Int) then Zb p s fuel (pos+(Utf8.decode s pos).2) else pos) else s.size
theorem Jqv (s:ByteArray) (pos:Nat):1<=(Utf8.decode s pos).2:=by
 simp only [Utf8.decode]
 repeat' split
 all_goals simp
theorem Jhm (s:ByteArray):s.extract 0 s.size=s:=by
 ext1;simp
theorem Jsk (s:ByteArray) (w:World) (hs:s.size<=maxLen):Calls Tryz.prog 74 #[.string s,.func (.func 78) #[] #[]] w fun r w'=>r = .returned (.string (s.extract 0 (Zb Q5 s (s.size+1) 0)))/\Below w.heap.size w w':=by
 unfold maxLen at hs
 go_enter Tryz.func74,Tryz.ntmps74
 go_wp2_with fail
 go_loopg [] (s.size+1) (fun k wr=>∃pos,s.size<k+pos/\Zb Q5 s k pos=Zb Q5 s (s.size+1) 0/\wr=w.iter s pos)
 case atStart=>exact⟨0,by omega,rfl,rfl⟩
 case round=>
  obtain⟨pos,hk,aa,rfl⟩:=hrel
  by_cases am:pos<s.size
  ·have qU:=fun ty=>run_next_any (P:=Tryz.prog) w s pos ty am;obtain⟨k,rfl⟩:∃k,gk=k+1:=⟨gk-1,by omega⟩;have cP:=Jqv s pos;rw [Zb,if_pos am] at aa;generalize (Utf8.decode s pos).1=rn at qU aa;generalize (Utf8.decode s pos).2=sz at qU aa cP
   cases hp:Q5 (rn:Int)
   ·rw [hp,if_neg (by simp)] at aa;have HR:=Lib.hid aa;clear aa
    go_wp2_with (go_at_call 78;refine(Jm2 _ _).mono ?_;rintro r w1 ⟨rfl,rfl⟩)
    go_ret;exact⟨by rw [<-HR.out];rfl,Jc (Below.refl _ _) _⟩
   ·rw [hp,if_pos rfl] at aa;have HR:=Lib.hid aa;clear aa
    go_wp2_with (go_at_call 78;refine(Jm2 _ _).mono ?_;rintro r w1 ⟨rfl,rfl⟩)
    go_roundg k
    case measure=>omega
    case rel=>exact⟨_,by omega,HR.out,rfl⟩
  ·have qU:=fun ty=>run_next_end (P:=Tryz.prog) w s pos ty am;have fa:Zb Q5 s gk pos=s.size:=by cases gk <;> simp [Zb,am]
   have HR:=Lib.hid (fa.symm.trans aa);clear aa fa
   go_wp2_with fail
   go_ret;exact⟨Kk (by rw [<-HR.out,Jhm]),Jc (Below.refl _ _) _⟩
def Kz (s:ByteArray):Bool:=if h:0<s.size then decide (s.size<=16) && Zh ((s[0]'h).toNat:Int) && decide (Zb Q5 s (s.size+1) 0=s.size) && !Jdo s else false
theorem Zf {a b:ByteArray} : (a.toList == b.toList)=true<->a=b:=by
 rw [beq_iff_eq,ByteArray.toList_eq,ByteArray.toList_eq];exact⟨fun h=>WideShapes.bytes_inj h,fun h=>by rw [h]⟩
theorem Ju9 {a b:ByteArray} (h:a≠b):(a.toList == b.toList)=false:=by
 rw [<-Bool.not_eq_true,Zf];exact h
theorem Jmj (p:Int->Bool) (s:ByteArray):∀f pos,Zb p s f pos<=s.size
 | 0,_=>Nat.le_refl _
 | f+1,pos=>by
  unfold Zb
  split
  ·split
   ·exact Jmj p s f _
   ·omega
  ·exact Nat.le_refl _
theorem Jfp {s:ByteArray} (h:0<s.size):s.toList.isEmpty=false:=by
 rw [ByteArray.toList_eq]
 cases h2:s.data.toList with
 | nil=>exfalso;rw [<-ByteArray.size_data,<-Array.length_toList,h2] at h;simp at h
 | cons=>rfl
theorem Je2 {s:ByteArray} (h:¬0<s.size):s=⟨#[]⟩:=by
 ext1;apply Array.eq_empty_of_size_eq_zero;rw [ByteArray.size_data];omega
theorem Jaf {s:ByteArray} (h:Kz s=true):s.size<=16:=by
 unfold Kz at h
 split at h
 ·simp at h;exact h.1.1.1
 ·simp at h
theorem Qt (s:ByteArray) (w:World):Calls Tryz.prog 47 #[.string s] w fun r w'=>r = .returned (.bool (Kz s))/\Below w.heap.size w w':=by
 by_cases h0:0<s.size
 ·have he:=Jfp h0
  by_cases h1:s.size<=16
  ·have hb:s[0].toNat<256:=UInt8.toNat_lt _;have hv:Kz s=(Zh (s[0].toNat:Int) && decide (Zb Q5 s (s.size+1) 0=s.size) && !Jdo s):=by unfold Kz;rw [dif_pos h0];simp [h1]
   have HV:=Lib.hid hv;clear hv
   have hx:((s.extract 0 (Zb Q5 s (s.size+1) 0)).toList == s.toList)=decide (Zb Q5 s (s.size+1) 0=s.size):=by
    by_cases h:Zb Q5 s (s.size+1) 0=s.size
    ·rw [h,Jhm];simp
    ·rw [decide_eq_false h];refine Ju9 fun e=>?_;have:=congrArg ByteArray.size e;rw [ByteArray.size_extract] at this;have:=Jmj Q5 s (s.size+1) 0;omega
   cases h2:Zh (s[0].toNat:Int) <;> cases h3:decide (Zb Q5 s (s.size+1) 0=s.size) <;> rw [h3] at hx <;> cases h4:Jdo s <;>
   ·rw [h2,h3,h4] at HV
    go_enter Tryz.func47,Tryz.ntmps47
    go_wp2_with (first|(go_at_call 77;refine(Jkp _ _).mono ?_;rintro r w1 ⟨rfl,rfl⟩)|(go_at_call 74;refine(Jsk _ _ (by unfold maxLen;omega)).mono ?_;rintro r w1 ⟨rfl,ac⟩)|(go_at_call 79;refine(Jwp _ _).mono ?_;rintro r w1 ⟨rfl,rfl⟩))
    go_ret;exact⟨Jk (by rw [HV.out];rfl),Jb⟩
  ·have hv:Kz s=false:=by unfold Kz;rw [dif_pos h0];simp [h1]
   have HV:=Lib.hid hv;clear hv
   go_enter Tryz.func47,Tryz.ntmps47
   go_wp2_with fail
   go_ret;exact⟨Jk (by rw [HV.out]),Jb⟩
 ·have hv:Kz s=false:=by unfold Kz;rw [dif_neg h0]
  have HV:=Lib.hid hv;clear hv;obtain rfl:=Je2 h0
  go_enter Tryz.func47,Tryz.ntmps47
  go_wp2_with fail
  go_ret;exact⟨Jk (by rw [HV.out]),Jb⟩
theorem Jt2 (e:Ex):∀(A:Option Addr) (cap:Nat) (most:Int) (w:World),Jt w e A cap->-1000000<=most->most<=1000000->
  Calls Tryz.prog 44 #[exV e A cap,.int .i64 most] w fun r w'=>r = .returned (.int .i64 (e.count most))/\Below w.heap.size w w':=by
 induction e using Ex.ind with
 | h e ih=>
 intro A cap most w he hm cI;have hl:=he.len;unfold maxLen at hl;obtain⟨bI,aD⟩:=hl;unfold exV
 go_enter Tryz.func44,Tryz.ntmps44
 go_wp2_with fail
 go_loopw [5,11] (fun m i wr=>∃(k:Nat) (m':Int),k<=e.sub.length/\i = .int .i64 k/\m = .int .i64 m'/\1<=m'/\m'<=max 1 most/\Ex.countL (e.sub.drop k) m' most=e.count most/\Below w.heap.size w wr) (fun _ i _=>e.sub.length-(intOf i).toNat)
 case atStart=>exact⟨0,1,Nat.zero_le _,rfl,rfl,by omega,by omega,by simp [Ex.count_eq],Jb⟩
 case round=>
  obtain⟨k,m',hk,rfl,rfl,h0,h1,aa,ab⟩:=hrel
  by_cases am:k<e.sub.length
  ·have hx:e.sub[k]?=some e.sub[k]:=List.getElem?_eq_getElem am;have aj:e.sub[k]∈e.sub:=List.getElem_mem am;have hd:e.sub.drop k=e.sub[k] :: e.sub.drop (k+1):=List.drop_eq_getElem_cons am;generalize e.sub[k]=x at hx aj hd;obtain⟨b,off,A',cap',rfl,c0,c1,c2,c3,hs⟩:=(he.later ab).get hx;rw [hd,Ex.countL] at aa;have ct:=Ex.count_bd x (most-m');have ihx:=ih x aj
   by_cases qK:m'>=most
   ·rw [if_pos qK] at aa;have HR:=Lib.hid aa;clear aa hd hx
    go_wp2_with fail
    go_ret;exact⟨Jm HR.out,Jb⟩
   ·rw [if_neg qK] at aa;have HR:=Lib.hid aa;clear aa hd hx
    go_wp2_with (go_at_call 44;refine(ihx A' cap' (most-m') _ (hs.later Jb) (by omega) (by omega)).mono ?_;rintro r w1 ⟨rfl,ac⟩)
    go_roundw
    case rel=>exact⟨k+1,m'+x.count (most-m'),by omega,by go_num,by go_num,by omega,by omega,HR.out,Jb⟩
    case measure=>simp [intOf];omega
  ·have bk:k=e.sub.length:=by omega
   rw [bk,List.drop_length,Ex.countL] at aa;have HR:=Lib.hid aa;clear aa bk
   go_wp2_with fail
   go_ret;exact⟨Jm HR.out,Jb⟩
def Jw (k:Int):Int×Int×Int×Bool×Bool:=
 if k=1 then(0,0,2147483647,false,true)
 else if k=2 then(0,0,1,false,true)
 else if k=3 then(0,0,0,true,true)
 else if k=4 then(1,1,2,false,true)
 else if k=5 then(2,1,16,false,true)
 else if k=6 then(3,0,0,false,true)
 else if k=7 then(2,0,0,false,true)
 else if k=8 then(1,0,0,true,true)
 else if k=9 then(1,0,0,true,true)
 else if k=10 then(2,0,0,true,true)
 else(0,0,0,false,false)
def Jl (k n:Int) (s:ByteArray) (len:Nat):Bool:=
 (Jw k).2.2.2.2 && ((len:Int) == (Jw k).1) && !decide (n<(Jw k).2.1) && !decide ((Jw k).2.2.1<n) && ((Jw k).2.2.2.1 == Kz s) && ((Jw k).2.2.2.1 || s.toList.isEmpty)
namespace Ex
mutual
def formed:Ex->Bool
 | mk k n s l=>Jl k n s l.length && formedL l
def formedL:List Ex->Bool
 | []=>true
 | x :: l=>formed x && formedL l
end
theorem formed_eq (e:Ex):e.formed=(Jl e.kind e.n e.name e.sub.length && formedL e.sub):=by cases e;simp [formed,kind,n,name,sub]
def right (e:Ex):Int:=
 if 120<e.count 121 then 3 else if 12<e.depth then 17 else if e.formed then 0 else 4
theorem right_zero {e:Ex} : e.right=0<->e.count 121<=120/\e.depth<=12/\e.formed=true:=by
 unfold right
 split
 ·omega
 ·split
  ·omega
  ·split
   ·rename_i h;simp [h];omega
   ·rename_i h;simp [h]
def literal (e:Ex):Bool:=
 if e.right=0 then
  if e.kind=4/\e.n=1 then(match e.sub with|x :: _=>x.kind == 1 | []=>false) else(e.kind == 1 || e.kind == 2)
 else false
mutual
def same:Ex->Ex->Bool
 | mk k n s l,y=>k == y.kind && n == y.n && s.toList == y.name.toList && l.length == y.sub.length && sameL l y.sub
def sameL:List Ex->List Ex->Bool
 | [],_=>true
 | _ :: _,[]=>true
 | x :: l,y :: m=>same x y && sameL l m
end
theorem same_eq (a b:Ex):same a b=(a.kind == b.kind && a.n == b.n && a.name.toList == b.name.toList && a.sub.length == b.sub.length && sameL a.sub b.sub):=by
 cases a;simp [same,kind,n,name,sub]
end Ex
def Ke (v:Va) (own:Bool):Bool:=
 Kz v.name && (v.type == 1 || v.type == 2) && (if v.ck=0 then v.cn.toList.isEmpty else if v.ck=1\/v.ck=2 then own && Kz v.cn else false)
def eqB (q:Qe):Bool:=
 Kz q.name && q.e.right == 0 && (if q.delay=1 then q.first.literal else if q.delay=0\/q.delay=2 then q.first.same Ex.zero else false)
def Qw (p:Pr):Bool:=
 Kz p.name && p.ins.all (Ke · false) && p.outs.all (Ke · false) && p.locals.all (Ke · true) && p.eqs.all eqB
theorem Juy (e:Ex):∀(A:Option Addr) (cap:Nat) (w:World),Jt w e A cap->e.size<=1000000->
  Calls Tryz.prog 45 #[exV e A cap] w fun r w'=>r = .returned (.int .i64 e.depth)/\Below w.heap.size w w':=by
 induction e using Ex.ind with
 | h e ih=>
 intro A cap w he hz;have hl:=he.len;unfold maxLen at hl;obtain⟨bI,aD⟩:=hl;have qY:=Ex.depth_bd e;unfold exV
 go_enter Tryz.func45,Tryz.ntmps45
 go_wp2_with fail
 go_loopw [3,9] (fun m i wr=>∃(k:Nat) (m':Int),k<=e.sub.length/\i = .int .i64 k/\m = .int .i64 m'/\0<=m'/\m'<=1000000/\Ex.depthL (e.sub.drop k) m'+1=e.depth/\Below w.heap.size w wr) (fun _ i _=>e.sub.length-(intOf i).toNat)
 case atStart=>exact⟨0,0,Nat.zero_le _,rfl,rfl,by omega,by omega,by simp [Ex.depth_eq],Jb⟩
 case round=>
  obtain⟨k,m',hk,rfl,rfl,h0,h1,aa,ab⟩:=hrel
  by_cases am:k<e.sub.length
  ·obtain⟨x,hx,aj,hd⟩:=Kl am;obtain⟨b,off,A',cap',rfl,c0,c1,c2,c3,hs⟩:=(he.later ab).get hx;rw [hd,Ex.depthL] at aa;have ct:=Ex.depth_bd x;have cE:=Ex.size_sub hx;have ihx:=ih x aj;have HR:=Lib.hid aa;clear aa hd hx
   go_wp2_with (go_at_call 45;refine(ihx A' cap' _ (hs.later Jb) (by omega)).mono ?_;rintro r w1 ⟨rfl,ac⟩)
   go_roundw
   case rel=>exact⟨k+1,max m' x.depth,by omega,by go_num,by first|rfl|go_num,by omega,by omega,HR.out,Jb⟩
   case measure=>simp [intOf];omega
  ·have bk:k=e.sub.length:=by omega
   rw [bk,List.drop_length] at aa;rw [Ex.depthL] at aa;have HR:=Lib.hid aa;clear aa bk
   go_wp2_with fail
   go_ret;exact⟨Jm HR.out,Jb⟩
theorem Jbm (k:Int) (w:World):Calls Tryz.prog 87 #[.int .i64 k] w fun r w'=>r = .returned (.tuple #[.int .i64 (Jw k).1,.int .i32 (Jw k).2.1,.int .i32 (Jw k).2.2.1,.bool (Jw k).2.2.2.1,.bool (Jw k).2.2.2.2])/\w=w':=by
 go_enter Tryz.func87,Tryz.ntmps87
 go_wp2_with fail
 all_goals (refine bodyPost_ret (v:= .tuple #[.int .i64 (Jw k).1,.int .i32 (Jw k).2.1,.int .i32 (Jw k).2.2.1,.bool (Jw k).2.2.2.1,.bool (Jw k).2.2.2.2]) (by simp_all [results,Tryz.results87,go_sem,Jw]) rfl ⟨rfl,rfl⟩)
end Go.Proofs.YtdgjplldlfeolaaGreatDoor
namespace Go.Proofs.YtdgjplldlfeolaaGreatDoor
open Go.RowKit Go.Sort
theorem Jbf {a b:Int} (h:(a == b)=true):a=b:=by simpa using h
theorem Jei {a b:Int} (h:(a != b)=false):a=b:=by simpa using h
theorem Jgi {a b:Int} (h:(a != b)=false):(a == b)=true:=by simpa using h
theorem Jgo {a b:Int} (h:(a != b)=true):(a == b)=false:=by simpa using h
theorem Jw3 (e:Ex):∀(y:Ex) (A:Option Addr) (cap:Nat) (A2:Option Addr) (cap2:Nat) (w:World),Jt w e A cap->Jt w y A2 cap2->
  Calls Tryz.prog 50 #[exV e A cap,exV y A2 cap2] w fun r w'=>r = .returned (.bool (e.same y))/\Below w.heap.size w w':=by
 induction e using Ex.ind with
 | h e ih=>
 intro y A cap A2 cap2 w he hy;have hl:=he.len;have qM:=hy.len;unfold maxLen at hl qM;obtain⟨bI,aD⟩:=hl;obtain⟨fD,cG⟩:=qM;have hv:=Ex.same_eq e y;unfold exV
 cases h1:(e.kind != y.kind)
 case true=>
   rw [Jgo h1,Bool.false_and,Bool.false_and,Bool.false_and,Bool.false_and] at hv;have HV:=Lib.hid hv;clear hv
   go_enter Tryz.func50,Tryz.ntmps50
   go_wp2_with fail
   go_ret;exact⟨Jk HV.out.symm,Jb⟩
 rw [Jgi h1,Bool.true_and] at hv
 cases h2:(e.n != y.n)
 case true=>
   rw [Jgo h2,Bool.false_and,Bool.false_and,Bool.false_and] at hv;have HV:=Lib.hid hv;clear hv
   go_enter Tryz.func50,Tryz.ntmps50
   go_wp2_with fail
   go_ret;exact⟨Jk HV.out.symm,Jb⟩
 rw [Jgi h2,Bool.true_and] at hv
 cases h3:(e.name.toList == y.name.toList)
 case false=>
   rw [h3,Bool.false_and,Bool.false_and] at hv;have HV:=Lib.hid hv;clear hv
   go_enter Tryz.func50,Tryz.ntmps50
   go_wp2_with fail
   go_ret;exact⟨Jk HV.out.symm,Jb⟩
 rw [h3,Bool.true_and] at hv
 cases h4:((e.sub.length:Int) != y.sub.length)
 case true=>
   have oh:(e.sub.length == y.sub.length)=false:=by {simp at h4;simp;omega};rw [oh,Bool.false_and] at hv;clear oh
   have HV:=Lib.hid hv;clear hv
   go_enter Tryz.func50,Tryz.ntmps50
   go_wp2_with fail
   go_ret;exact⟨Jk HV.out.symm,Jb⟩
 have oh:e.sub.length=y.sub.length:=by have:=Jei h4;omega
 rw [oh,beq_self_eq_true,Bool.true_and] at hv;have HV:=Lib.hid hv;clear hv;have H4:=Lib.hid oh;clear oh
 go_enter Tryz.func50,Tryz.ntmps50
 go_wp2_with fail
 go_loopw [38] (fun i wr=>∃(k:Nat),k<=e.sub.length/\i = .int .i64 k/\Ex.sameL (e.sub.drop k) (y.sub.drop k)=e.same y/\wr.cell? ⟨w.heap.size+1,3,none⟩=some (.slice A2 y.sub.length cap2)/\Below w.heap.size w wr) (fun i _=>e.sub.length-(intOf i).toNat)
 case atStart=>exact⟨0,Nat.zero_le _,rfl,by rw [HV.out];simp,by go_simp,Jb⟩
 case round=>
  obtain⟨k,hk,rfl,aa,vV,ab⟩:=hrel;have gt:=block_lt_of_cell vV;dsimp only at gt;have hbz':w.heap.size<wr.heap.size:=by omega
  by_cases am:k<e.sub.length
  ·have dO:k<y.sub.length:=by have:=H4.out;omega
   obtain⟨x,hx,aj,hd⟩:=Kl am;obtain⟨b,off,A',cap',rfl,c0,c1,c2,c3,hs⟩:=(he.later ab).get hx;have qh:y.sub[k]?=some y.sub[k]:=List.getElem?_eq_getElem dO;have gN:y.sub.drop k=y.sub[k] :: y.sub.drop (k+1):=List.drop_eq_getElem_cons dO;generalize y.sub[k]=x2 at qh gN;obtain⟨b2,off2,A2',cap2',rfl,g0,g1,g2,g3,gq⟩:=(hy.later ab).get qh;rw [hd,gN,Ex.sameL] at aa;have ihx:=ih x aj;have aq:=block_lt_of_cell g0;dsimp only at aq;have iJ:b2<wr.heap.size+1:=by omega
   cases jN:x.same x2
   ·rw [jN] at aa;have HR:=Lib.hid aa;clear aa hd gN hx qh
    go_wp2_with fail
    refine Jx (by kernel_rfl) (by kernel_rfl) (fun bj=>?_)
    repeat (quiet_step ((go_at_call 50;exact Calls.regrown_of (ihx x2 _ _ _ _ _ (hs.later Jb) (gq.later Jb)))))
    refine wpQuiet_nil ?_;intro wq au;replace au:=qbo au;obtain⟨au,dA,bh⟩:=au;clear bj
    (try simp at bh)
    go_wp2_with fail
    go_ret;exact⟨Jk HR.out,Jb⟩
   ·rw [jN] at aa;have HR:=Lib.hid aa;clear aa hd gN hx qh
    go_wp2_with fail
    refine Jx (by kernel_rfl) (by kernel_rfl) (fun bj=>?_)
    repeat (quiet_step ((go_at_call 50;exact Calls.regrown_of (ihx x2 _ _ _ _ _ (hs.later Jb) (gq.later Jb)))))
    refine wpQuiet_nil ?_;intro wq au;replace au:=qbo au;obtain⟨au,dA,bh⟩:=au;clear bj
    (try simp at bh)
    go_wp2_with fail
    go_roundw
    case rel=>exact⟨k+1,by omega,by go_num,HR.out,(by repeat (first|(with_reducible assumption)|refine Ja (by with_reducible assumption) ?_|refine J4 ?_|refine Zw ?_)),Jb⟩
    case measure=>simp [intOf];omega
  ·have bk:k=e.sub.length:=by omega
   rw [bk,List.drop_length,Ex.sameL] at aa;have HR:=Lib.hid aa;clear aa bk
   go_wp2_with fail
   go_ret;exact⟨Jk HR.out,Jb⟩
def Jb7:Nat->Nat->List UInt8->List UInt8
 | 0,_,acc=>acc
 | f+1,n,acc=>if n / 10=0 then UInt8.ofNat (48+n % 10) :: acc else Jb7 f (n / 10) (UInt8.ofNat (48+n % 10) :: acc)
def Jgk (a:Int):List UInt8:=if a<0 then 45 :: Jb7 10 a.natAbs [] else Jb7 10 a.natAbs []
def Zn (a:Int):ByteArray:=⟨(Jgk a).toArray⟩
def Xy (l:List UInt8):List Value:=List.replicate (11-l.length) (.int .u8 0) ++ l.map (fun c=> .int .u8 c.toNat)
theorem Jn5 (n:Nat) (h:n<256):(UInt8.ofNat n).toNat=n:=by simp;omega
theorem Js6 {l:List UInt8} (h:l.length<=11) {j:Nat} {c:UInt8} (hc:l[j]?=some c):(Xy l)[11-l.length+j]?=some (.int .u8 c.toNat):=by
 unfold Xy;rw [List.getElem?_append_right (by simp)];simp [hc]
theorem Jga {l:List UInt8} {x:Nat} (h:x+l.length<11):(Xy l)[x]?=some (.int .u8 0):=by
 unfold Xy;rw [List.getElem?_append_left (by simp;omega)];simp [List.getElem?_replicate];omega
theorem Jhc {l:List UInt8} {x:Nat} {c:UInt8} {v:Int} (h:x+l.length=10) (hv:v=(c.toNat:Int)):(Xy l).set x (.int .u8 v)=Xy (c :: l):=by
 subst hv;unfold Xy;have e1:11-l.length=x+1:=by omega
 have e2:11-(c :: l).length=x:=by simp;omega
 rw [e1,e2,List.set_append_left _ _ (by simp)];rw [List.replicate_succ',List.set_append_right _ _ (by simp)];simp
theorem Jlh (l:List UInt8):∀(r:ByteArray),(l.map fun c:UInt8=>(c.toNat:Int)).foldl (fun r n=>r.push (UInt8.ofNat n.toNat)) r=⟨(r.data.toList ++ l).toArray⟩:=by
 induction l with
 | nil=>intro r;cases r;simp
 | cons c l ih=>
  intro r;rw [List.map_cons,List.foldl_cons,ih]
  congr 1
  simp
theorem Jje (w:World) (l:List UInt8) (hl:l.length<=11) (n c:Nat) (hn:n=l.length) :
  (convert 50 9 (.slice (some ⟨w.heap.size,11-l.length,none⟩) n c)).run Tryz.prog (w.alloc (.cells (Xy l).toArray 168)) = .ok (.string ⟨l.toArray⟩) (w.alloc (.cells (Xy l).toArray 168)):=by
 subst hn;rw [run_convert_bytes_string _ _ _ _ _ _ _ Tryz.underlying50 Tryz.underlying5 Tryz.underlying9]
 have oQ:(loadCells ⟨w.heap.size,11-l.length,none⟩ l.length).run Tryz.prog (w.alloc (.cells (Xy l).toArray 168)) = .ok ((l.map fun c:UInt8=>(c.toNat:Int)).map (Value.int .u8)).toArray (w.alloc (.cells (Xy l).toArray 168)):=by
  have:=run_loadCells_list (P:=Tryz.prog) (w.alloc (.cells (Xy l).toArray 168)) ⟨w.heap.size,11-l.length,none⟩ ((l.map fun c:UInt8=>(c.toNat:Int)).map (Value.int .u8)) (fun j v hj=>by
   have cQ:(⟨w.heap.size,11-l.length,none⟩:Addr).add j=⟨w.heap.size,11-l.length+j,none⟩:=by unfold Addr.add;split <;> simp_all
   rw [cQ,cell_of_row _ _ _ _ _ _ (heap_alloc_new w _)];simp only [List.map_map,List.getElem?_map,Option.map_eq_some_iff] at hj;obtain⟨c,hc,rfl⟩:=hj;simpa using Js6 hl hc)
  simpa using this
 rw [run_bytesToString _ _ _ _ _ oQ,Jlh];simp
theorem Jog:∀f m l,(Jb7 f m l).length<=f+l.length
 | 0,_,_=>by simp [Jb7]
 | f+1,m,l=>by
  unfold Jb7
  split
  ·simp;omega
  ·have:=Jog f (m / 10) (UInt8.ofNat (48+m % 10) :: l);simp only [List.length_cons] at this;omega
theorem Jie (w:World) (y:Nat) (hy:y<11) (W:World):(Instr.sliceAt 168 (.pointer (some ⟨w.heap.size,0,none⟩)) (some (.int .i64 (y:Int))) none none).run Tryz.prog W = .ok (.slice (some ⟨w.heap.size,y,none⟩) (11-y) (11-y)) W:=by
 have hn:Tryz.prog.arrayLen 168=11:=by kernel_rfl
 have hs:(sizeOf (Tryz.prog.elem 168)).run Tryz.prog W = .ok 1 W:=by kernel_rfl
 rw [run_sliceAt_array_l W 168 ⟨w.heap.size,0,none⟩ (by kernel_rfl) .i64 y (by omega) (by rw [hn];omega),hs];simp only [Result.andThen,slicedAt,hn,Int.toNat_natCast,Nat.mul_one];rw [if_neg (by omega)]
 congr 4
 unfold Addr.add
 split
 ·simp_all
 ·simp
theorem Jtb (a:Int) (w:World) (h1 : -2147483648<=a) (h2:a<=2147483647) :
  Calls Tryz.prog 52 #[.int .i32 a] w fun r w'=>r = .returned (.string (Zn a))/\Below w.heap.size w w':=by
 by_cases h:a<0
 ·go_enter Tryz.func52,Tryz.ntmps52
  go_wp2_with fail
  go_loopg [4,5] 10 (fun f i n wr=>∃(m x:Nat) (ds:List UInt8),x=f/\1<=x/\x+ds.length=10/\m<10 ^ f/\i = .int .i64 ((x:Int)+1)/\n = .int .i64 m/\Jb7 f m ds=Jb7 10 a.natAbs []/\wr=w.alloc (.cells (Xy ds).toArray 168))
  case atStart=>exact⟨a.natAbs,10,[],rfl,by omega,rfl,by omega,rfl,by congr 1;omega,rfl,rfl⟩
  case round=>
   obtain⟨m,x,ds,rfl,hx0,hx,hm,rfl,rfl,aa,rfl⟩:=hrel;have ev:(Xy ds).toArray[x]?=some (.int .u8 0):=by simpa using Jga (by omega)
   have bW:(Xy ds).set x (.int .u8 (48+(m:Int) % 10))=Xy (UInt8.ofNat (48+m % 10) :: ds):=Jhc hx (by rw [Jn5 _ (by omega)];omega);have hx11:(x:Int)<11:=by omega
   have xF:x<11:=by omega
   have xG:m<=10000000000:=by
    have:=Nat.pow_le_pow_right (n:=10) (by omega) (show x<=10 by omega);omega
   obtain⟨y,rfl⟩:∃y,x=y+1:=⟨x-1,by omega⟩;have cI:m / 10<10 ^ y:=by rw [Nat.pow_succ] at hm;omega
   rw [Jb7] at aa
   by_cases hd:m / 10=0
   ·rw [if_pos hd] at aa;generalize UInt8.ofNat (48+m % 10)=d at aa bW;have hcell2:(Xy (d :: ds)).toArray[y]?=some (.int .u8 0):=by simpa using Jga (by simp;omega)
    have hset2:(Xy (d :: ds)).set y (.int .u8 45)=Xy (45 :: d :: ds):=Jhc (by simp;omega) (by rfl);have hy11:(y:Int)<11:=by omega
    have oR:y<11:=by omega
    have dF:=Jie w y oR;have ky:=Jje w (45 :: d :: ds) (by simp;omega) (11-y) (11-y) (by simp;omega);have e11:11-(45 :: d :: ds).length=y:=by simp;omega
    rw [e11] at ky;clear e11;have hv:Zn a=⟨(45 :: d :: ds).toArray⟩:=by unfold Zn Jgk;rw [if_pos (by omega),<-aa]
    clear aa;have HV:=Lib.hid hv;clear hv
    go_wp2_with fail
    go_ret;exact⟨Kk HV.out.symm,Jc (Below.refl _ _) _⟩
   ·rw [if_neg hd] at aa
    have bV:1<=y:=by
     rcases Nat.eq_zero_or_pos y with h0|h0
     ·subst h0;simp at cI;omega
     ·exact h0
    generalize UInt8.ofNat (48+m % 10)=d at aa bW;have HR:=Lib.hid aa;clear aa
    go_wp2_with fail
    go_roundg y
    case measure=>omega
    case rel=>exact⟨m / 10,y,d :: ds,rfl,bV,by simp;omega,cI,by go_num,by go_num,HR.out,by first|rfl|simp⟩
 ·go_enter Tryz.func52,Tryz.ntmps52
  go_wp2_with fail
  go_loopg [4,5] 10 (fun f i n wr=>∃(m x:Nat) (ds:List UInt8),x=f/\1<=x/\x+ds.length=10/\m<10 ^ f/\i = .int .i64 ((x:Int)+1)/\n = .int .i64 m/\Jb7 f m ds=Jb7 10 a.natAbs []/\wr=w.alloc (.cells (Xy ds).toArray 168))
  case atStart=>exact⟨a.natAbs,10,[],rfl,by omega,rfl,by omega,rfl,by congr 1;omega,rfl,rfl⟩
  case round=>
   obtain⟨m,x,ds,rfl,hx0,hx,hm,rfl,rfl,aa,rfl⟩:=hrel;have ev:(Xy ds).toArray[x]?=some (.int .u8 0):=by simpa using Jga (by omega)
   have bW:(Xy ds).set x (.int .u8 (48+(m:Int) % 10))=Xy (UInt8.ofNat (48+m % 10) :: ds):=Jhc hx (by rw [Jn5 _ (by omega)];omega);have hx11:(x:Int)<11:=by omega
   have xF:x<11:=by omega
   have xG:m<=10000000000:=by
    have:=Nat.pow_le_pow_right (n:=10) (by omega) (show x<=10 by omega);omega
   obtain⟨y,rfl⟩:∃y,x=y+1:=⟨x-1,by omega⟩;have cI:m / 10<10 ^ y:=by rw [Nat.pow_succ] at hm;omega
   rw [Jb7] at aa
   by_cases hd:m / 10=0
   ·rw [if_pos hd] at aa;generalize UInt8.ofNat (48+m % 10)=d at aa bW;have hy11:(y:Int)+1<11:=by omega
    have oR:y+1<11:=by omega
    have dF:=Jie w (y+1) oR;rw [show((y+1:Nat):Int)=(y:Int)+1 from by omega] at dF;have ky:=Jje w (d :: ds) (by simp;omega) (10-y) (10-y) (by simp;omega);have e11:11-(d :: ds).length=y+1:=by simp;omega
    rw [e11] at ky;clear e11;have hv:Zn a=⟨(d :: ds).toArray⟩:=by unfold Zn Jgk;rw [if_neg (by omega),<-aa]
    clear aa;have HV:=Lib.hid hv;clear hv
    go_wp2_with fail
    go_ret;exact⟨Kk HV.out.symm,Jc (Below.refl _ _) _⟩
   ·rw [if_neg hd] at aa
    have bV:1<=y:=by
     rcases Nat.eq_zero_or_pos y with h0|h0
     ·subst h0;simp at cI;omega
     ·exact h0
    generalize UInt8.ofNat (48+m % 10)=d at aa bW;have HR:=Lib.hid aa;clear aa
    go_wp2_with fail
    go_roundg y
    case measure=>omega
    case rel=>exact⟨m / 10,y,d :: ds,rfl,bV,by simp;omega,cI,by go_num,by go_num,HR.out,by first|rfl|simp⟩
end Go.Proofs.YtdgjplldlfeolaaGreatDoor
namespace Go.Proofs.YtdgjplldlfeolaaGreatDoor
open Go.RowKit
def Ja6 (n:Int):ByteArray:=
 if n=1 then⟨#[43]⟩
 else if n=2 then⟨#[45]⟩
 else if n=3 then⟨#[42]⟩
 else if n=4 then⟨#[47]⟩
 else if n=5 then⟨#[37]⟩
 else if n=6 then⟨#[60,60]⟩
 else if n=7 then⟨#[62,62]⟩
 else if n=8 then⟨#[38]⟩
 else if n=9 then⟨#[124]⟩
 else if n=10 then⟨#[94]⟩
 else if n=11 then⟨#[61]⟩
 else if n=12 then⟨#[60,62]⟩
 else if n=13 then⟨#[60]⟩
 else if n=14 then⟨#[60,61]⟩
 else if n=15 then⟨#[62]⟩
 else if n=16 then⟨#[62,61]⟩
 else⟨#[]⟩
def brk (k:Int) (t:ByteArray):ByteArray:=if k=1\/k=2\/k=3\/k=8\/k=9 then t else⟨#[40]⟩ ++ t ++ ⟨#[41]⟩
def Ye (k n:Int) (s:ByteArray) (ts:List ByteArray):ByteArray:=
 if k=1 then Zn n
 else if k=2 then(if n=0 then⟨#[102,97,108,115,101]⟩ else⟨#[116,114,117,101]⟩)
 else if k=4 then(if n=2 then⟨#[110,111,116,32]⟩ ++ ts.getD 0 ⟨#[]⟩ else⟨#[45]⟩ ++ ts.getD 0 ⟨#[]⟩)
 else if k=5 then ts.getD 0 ⟨#[]⟩ ++ ⟨#[32]⟩ ++ Ja6 n ++ ⟨#[32]⟩ ++ ts.getD 1 ⟨#[]⟩
 else if k=6 then⟨#[105,102,32]⟩ ++ ts.getD 0 ⟨#[]⟩ ++ ⟨#[32,116,104,101,110,32]⟩ ++ ts.getD 1 ⟨#[]⟩ ++ ⟨#[32,101,108,115,101,32]⟩ ++ ts.getD 2 ⟨#[]⟩
 else if k=7 then ts.getD 0 ⟨#[]⟩ ++ ⟨#[32,45,62,32]⟩ ++ ts.getD 1 ⟨#[]⟩
 else if k=8 then ts.getD 0 ⟨#[]⟩ ++ ⟨#[32,119,104,101,110,32]⟩ ++ s
 else if k=9 then ts.getD 0 ⟨#[]⟩ ++ ⟨#[32,117,110,108,101,115,115,32]⟩ ++ s
 else if k=10 then⟨#[109,101,114,103,101,32]⟩ ++ s ++ ⟨#[32]⟩ ++ ts.getD 0 ⟨#[]⟩ ++ ⟨#[32]⟩ ++ ts.getD 1 ⟨#[]⟩
 else s
namespace Ex
mutual
def showB:Ex->ByteArray
 | mk k n s l=>Ye k n s (showL (k == 6) l)
def showL (f:Bool):List Ex->List ByteArray
 | []=>[]
 | x :: l=>(if f then showB x else brk x.kind (showB x)) :: showL f l
end
theorem showB_eq (e:Ex):e.showB=Ye e.kind e.n e.name (showL (e.kind == 6) e.sub):=by cases e;simp [showB,kind,n,name,sub]
def partB (x:Ex):ByteArray:=brk x.kind x.showB
theorem showL_map (f:Bool) (l:List Ex):showL f l=l.map fun x=>if f then x.showB else x.partB:=by
 induction l with
 | nil=>simp [showL]
 | cons x l ih=>simp [showL,ih,partB]
theorem showL_len (f:Bool) (l:List Ex):(showL f l).length=l.length:=by simp [showL_map]
end Ex
theorem Kq (a b:ByteArray):(a ++ b).size=a.size+b.size:=by simp [ByteArray.size_append]
theorem Ko (l:Array UInt8):(ByteArray.mk l).size=l.size:=rfl
theorem Jkk (k:Int) (t:ByteArray):(brk k t).size<=t.size+2:=by
 unfold brk;split
 ·omega
 ·simp only [Kq,Ko,List.size_toArray,List.length_cons,List.length_nil];omega
theorem Jhr (n:Int):(Ja6 n).size<=2:=by
 unfold Ja6
 by_cases h1:n=1
 ·rw [if_pos h1];decide
 rw [if_neg h1]
 by_cases h2:n=2
 ·rw [if_pos h2];decide
 rw [if_neg h2]
 by_cases h3:n=3
 ·rw [if_pos h3];decide
 rw [if_neg h3]
 by_cases h4:n=4
 ·rw [if_pos h4];decide
 rw [if_neg h4]
 by_cases h5:n=5
 ·rw [if_pos h5];decide
 rw [if_neg h5]
 by_cases h6:n=6
 ·rw [if_pos h6];decide
 rw [if_neg h6]
 by_cases h7:n=7
 ·rw [if_pos h7];decide
 rw [if_neg h7]
 by_cases h8:n=8
 ·rw [if_pos h8];decide
 rw [if_neg h8]
 by_cases h9:n=9
 ·rw [if_pos h9];decide
 rw [if_neg h9]
 by_cases bM:n=10
 ·rw [if_pos bM];decide
 rw [if_neg bM]
 by_cases gh:n=11
 ·rw [if_pos gh];decide
 rw [if_neg gh]
 by_cases eG:n=12
 ·rw [if_pos eG];decide
 rw [if_neg eG]
 by_cases h13:n=13
 ·rw [if_pos h13];decide
 rw [if_neg h13]
 by_cases h14:n=14
 ·rw [if_pos h14];decide
 rw [if_neg h14]
 by_cases h15:n=15
 ·rw [if_pos h15];decide
 rw [if_neg h15]
 by_cases h16:n=16
 ·rw [if_pos h16];decide
 rw [if_neg h16]
 decide
theorem Jqr (a:Int):(Zn a).size<=11:=by
 unfold Zn Jgk;rw [Ko];have:=Jog 10 a.natAbs []
 split <;> simp at this ⊢ <;> omega
theorem Jr4 {a b:Int} (h:(a == b)=true):a=b:=by simpa using h
theorem Jgu {s:ByteArray} (h:Kz s=true\/s.toList.isEmpty=true):s.size<=16:=by
 rcases h with h|h
 ·exact Jaf h
 ·rw [ByteArray.toList_eq] at h
  have:s.data.size=0:=by
   rw [<-Array.length_toList,List.isEmpty_iff.1 h];rfl
  rw [<-ByteArray.size_data,this];omega
namespace Ex
theorem formed_sub {e x:Ex} (h:e.formed=true) (hx:x∈e.sub):x.formed=true:=by
 rw [formed_eq,Bool.and_eq_true] at h
 have:∀l:List Ex,formedL l=true->∀x∈l,x.formed=true:=by
  intro l
  induction l with
  | nil=>intro _ x hx;cases hx
  | cons y l ih=>
   intro h x hx;simp only [formedL,Bool.and_eq_true] at h
   rcases List.mem_cons.1 hx with rfl|hx
   ·exact h.1
   ·exact ih h.2 x hx
 exact this _ h.2 x hx
theorem Jp2 {k n:Int} {s:ByteArray} {len:Nat} (h:Jl k n s len=true):(len:Int)=(Jw k).1/\(Kz s=true\/s.toList.isEmpty=true):=by
 simp only [Jl,Bool.and_eq_true,Bool.or_eq_true] at h;refine⟨Jr4 h.1.1.1.1.2,?_⟩
 rcases h.2 with h2|h2
 ·have:=h.1.2;rw [h2] at this;exact .inl (by simpa using this.symm)
 ·exact .inr h2
theorem formed_kind {e:Ex} (h:e.formed=true):(e.sub.length:Int)=(Jw e.kind).1/\e.name.size<=16:=by
 rw [formed_eq,Bool.and_eq_true] at h;obtain⟨h1,h2⟩:=Jp2 h.1;exact⟨h1,Jgu h2⟩
theorem Jr5 (k n:Int) (s:ByteArray) (ts:List ByteArray) (hs:s.size<=16):(Ye k n s ts).size<=(ts.getD 0 ⟨#[]⟩).size+(ts.getD 1 ⟨#[]⟩).size+(ts.getD 2 ⟨#[]⟩).size+30:=by
 have h1:=Jqr n;have h2:=Jhr n;unfold Ye
 repeat' split
 all_goals try simp only [Kq,Ko,List.size_toArray,List.length_cons,List.length_nil]
 all_goals omega
theorem showB_size (e:Ex):e.formed=true->e.showB.size+2<=40 * e.size:=by
 induction e using ind with
 | h e ih=>
  intro hf;have hk:=(formed_kind hf);have hs:=Jr5 e.kind e.n e.name (showL (e.kind == 6) e.sub) hk.2;rw [<-showB_eq] at hs;rw [size_eq]
  have hl:e.sub.length<=3:=by
   have:=hk.1;unfold Jw at this
   repeat' split at this
   all_goals first|omega|(simp at this;omega)
  have hp:∀x∈e.sub,(if (e.kind == 6)=true then x.showB else x.partB).size<=40 * x.size:=by
   intro x hx;have:=ih x hx (formed_sub hf hx);have hb:=Jkk x.kind x.showB
   split
   ·omega
   ·unfold partB;omega
  rw [showL_map] at hs;generalize aT:e.sub=l at hs hl hp
  match l,hl,hp with
  | [],_,_=>simp only [List.map_nil,List.getD_nil,Ko,List.size_toArray,List.length_nil] at hs;simp only [sizeL];omega
  | [a],_,hp=>
   have ha:=hp a (by simp);simp only [List.map_cons,List.map_nil,List.getD_cons_zero,List.getD_cons_succ,List.getD_nil,Ko,List.size_toArray,List.length_nil] at hs;simp only [sizeL];omega
  | [a,b],_,hp=>
   have ha:=hp a (by simp);have hb:=hp b (by simp);simp only [List.map_cons,List.map_nil,List.getD_cons_zero,List.getD_cons_succ,List.getD_nil,Ko,List.size_toArray,List.length_nil] at hs;simp only [sizeL];omega
  | [a,b,c],_,hp=>
   have ha:=hp a (by simp);have hb:=hp b (by simp);have hc:=hp c (by simp);simp only [List.map_cons,List.map_nil,List.getD_cons_zero,List.getD_cons_succ,List.getD_nil,Ko,List.size_toArray,List.length_nil] at hs;simp only [sizeL];omega
end Ex
end Go.Proofs.YtdgjplldlfeolaaGreatDoor
namespace Go.Proofs.YtdgjplldlfeolaaGreatDoor
open Go.RowKit Go.Sort
section
variable {P:Program} {w w':World} {base:Nat} {e:TypeId} {size n:Nat} {v:Value} {xs:List Value}
theorem Jpb (h:w.ownsRow base e size v n xs) (hb:∀k,k<w.heap.size->w'.heap[k]?=w.heap[k]?):w'.ownsRow base e size v n xs:=by
 obtain⟨h1,h2⟩:=h;refine⟨h1,?_⟩
 rcases h2 with h2|⟨g,cap,cur,hv,hg,hh,r⟩
 ·exact .inl h2
 ·refine .inr ⟨g,cap,cur,hv,hg,?_,r⟩
  have am:g<w.heap.size:=by
   rcases Nat.lt_or_ge g w.heap.size with h|h
   ·exact h
   ·rw [Array.getElem?_eq_none h] at hh;cases hh
  rw [hb g am];exact hh
theorem Jy (h:w.ownsRow base e size v n xs) (hb:Below w.heap.size w w'):w'.ownsRow base e size v n xs:=Jpb h hb.block
theorem Js (h:w.ownsRow base e size v n xs) {o:Obj} : (w.alloc o).ownsRow base e size v n xs:=h.alloc o
theorem Kp (h:w.ownsRow base e size v n xs):w.drew.ownsRow base e size v n xs:=h
theorem Kc (h:w.ownsRow base e size v n xs) (hn:0<n):∃g cap,v = .slice (some ⟨g,0,none⟩) n cap/\base<=g/\g<w.heap.size/\n<=cap/\cap<=maxLen/\∀j u,xs[j]?=some u->w.cell? ⟨g,j,none⟩=some u:=by
 have am:=h.lt;obtain⟨hx,h'⟩:=h;have h:w.ownsRow base e size v n xs:=⟨hx,h'⟩
 rcases h' with ⟨rfl,h0⟩|⟨g,cap,cur,rfl,hg,hh,h1,h2,_⟩
 ·omega
 ·refine⟨g,cap,rfl,hg,(am g rfl).2,h1,h2,fun j u hj=>?_⟩;have:=h.cells rfl j u hj;have cQ:(⟨g,0,none⟩:Addr).add j=⟨g,j,none⟩:=by unfold Addr.add;split <;> simp_all
  rwa [cQ] at this
theorem Jv (h:w.ownsRow base e size v n xs):∃A cap,v = .slice A n cap/\n<=cap/\cap<=maxLen:=by
 rcases h.2 with ⟨rfl,rfl⟩|⟨g,cap,cur,rfl,hg,hh,h1,h2,_⟩
 ·exact⟨none,0,rfl,Nat.le_refl _,by simp [maxLen]⟩
 ·exact⟨_,cap,rfl,h1,h2⟩
theorem Jn {a b c:World} {B:Nat} (h:Below a.heap.size a b) (k:Below B b c) (hB:a.heap.size<=B):Below a.heap.size a c:=h.trans (k.mono hB)
theorem Kw (w:World) (c:Array Value) (t:TypeId) (j:Nat):(w.alloc (.cells c t)).cell? ⟨w.heap.size,j,none⟩=c[j]?:=cell_of_row _ _ _ _ _ _ (heap_alloc_new w _)
theorem Kap {ops:Array Oper} {rest:List Oper} {o:Oper} {a:Act} {Q:Exit->Act->World->Prop} (oL:o.guard=none) (s x:Operand) (t:TypeId)
  (ho:o.op = .call {callee:= .builtin .append,args:=#[s,x],argTypes:=#[t,t]})
  (base:Nat) (e:TypeId) (z:Value) (size bytes:Nat) (ht:P.underlying t=some (.slice e)) (hi:(P.info? e).map (fun i=>(i.zero,i.size,i.bytes))=some (some z,size,bytes))
  (gH:z.cells.size=size) (cE:0<size) (v:Value) (n:Nat) (xs:List Value) (g c:Nat) (news:List Value)
  (hs:a.eval s=v) (ae:w.ownsRow base e size v n xs)
  (hx:a.eval x = .slice (some ⟨g,0,none⟩) 1 c) (hl:news.length=size) (xy:∀j u,news[j]?=some u->w.cell? ⟨g,j,none⟩=some u) (h1:∀u∈news,u.oneCell'=true)
  (hn:n<100000000) (hb:bytes<=1000) (aK:base<=w.heap.size)
  (h:∀v' w',w'.ownsRow base e size v' (n+1) (xs ++ news)->Below base w w'->wpList P ops Q rest (a.put o.dst v') w'):wpList P ops Q (o :: rest) a w:=by
 obtain⟨i,kF,bD,af,br⟩:=info_parts hi;refine wpList_append_own w oL s x t ho base e i z size bytes ht kF bD af br gH cE v n xs hs ae ⟨g,0,none⟩ 1 c news hx (by simp [hl]) (fun j u hj=>?_) h1 (by unfold maxLen;omega) ?_ aK fun v' w' h2 h3 _=>?_
 ·have cQ:(⟨g,0,none⟩:Addr).add j=⟨g,j,none⟩:=by unfold Addr.add;split <;> simp_all
  rw [cQ];exact xy j u hj
 ·exact Nat.le_trans (Nat.mul_le_mul (Nat.le_of_lt_succ (by omega:n+1<100000002)) hb) (by omega)
 ·refine h v' w' h2 ⟨h3.os,h3.tape,h3.output,h3.size,fun k hk=>h3.block k (by omega) fun dz=>?_⟩;have:=(ae.lt k dz.symm).1;omega
end
end Go.Proofs.YtdgjplldlfeolaaGreatDoor
namespace Go.Proofs.YtdgjplldlfeolaaGreatDoor
open Go.RowKit Go.Sort Go.Maps Go.ChangeMaps Go.WideMaps
def upd (f:ByteArray->Option Int) (s:ByteArray) (v:Int):ByteArray->Option Int:=fun t=>if t.data=s.data then some v else f t
def Jz (P:Program) (k e:TypeId) (w:World) (b n:Nat) (f:ByteArray->Option Int):Prop:=
 ∃D:DataW Unit,w.ownsMap P k (plainElem P e) b n D/\Maps.IsMap D/\
  ∀s:ByteArray,Maps.has D (.string s.data.toList)=(f s).isSome/\D.atKey (.string s.data.toList) (.lit (.int .i64 0)) = .lit (.int .i64 ((f s).getD 0))
section
variable {P:Program} {k e:TypeId} {w w':World} {b n:Nat} {f:ByteArray->Option Int}
theorem Jz.made (w:World):Jz P k e (w.alloc (.map #[] 0)) w.heap.size 0 (fun _=>none):=
 ⟨.map [],World.ownsMap_made w P k _,isMap_empty,fun s=>⟨rfl,rfl⟩⟩
theorem Jz.keep (h:Jz P k e w b n f) (hb:∀k,k<w.heap.size->w'.heap[k]?=w.heap[k]?):Jz P k e w' b n f:=by
 obtain⟨D,h1,h2,h3⟩:=h;have am:=h1.lt;obtain⟨es,clock,hh,F,hs,hD⟩:=h1;exact⟨D,⟨es,clock,(hb b am).trans hh,F,hs,hD⟩,h2,h3⟩
theorem Jz.lt (h:Jz P k e w b n f):b<w.heap.size:=by
 obtain⟨D,h1,_⟩:=h;exact h1.lt
theorem Jz.bel (h:Jz P k e w b n f) (hb:Below w.heap.size w w'):Jz P k e w' b n f:=h.keep hb.block
theorem Jz.alloc (h:Jz P k e w b n f) {o:Obj} : Jz P k e (w.alloc o) b n f:=h.bel (Jc (Below.refl _ _) o)
theorem Jz.drew (h:Jz P k e w b n f):Jz P k e w.drew b n f:=h
theorem Qb {ops:Array Oper} {rest:List Oper} {o:Oper} {a:Act} {Q:Exit->Act->World->Prop} (hg:o.guard=none) (m x:Operand) (t:TypeId) (jf:o.op=Op.lookup t m x false)
  (hk:P.underlying k=some .string) (ht:P.underlying t=some (.map k e)) (he:P.underlying e=some (.int .i64)) (hz:(zeroValue e).run P w = .ok (.int .i64 0) w)
  (b n:Nat) (f:ByteArray->Option Int) (s:ByteArray) (hm:a.eval m = .map (some b)) (ae:Jz P k e w b n f) (hx:a.eval x = .string s) (hs:s.size<=maxLen)
  (hK:wpList P ops Q rest (a.put o.dst (.int .i64 ((f s).getD 0))) w):wpList P ops Q (o :: rest) a w:=by
 obtain⟨D,h1,h2,h3⟩:=ae;refine wpList_lookup_own_int w hg m x t jf k e .i64 (string_keyed hk) ht he hz b n D hm h1 _ _ hx (keyOf_string_mk hk hs) fun c hc _=>?_;rw [(h3 s).2] at hc;have:(f s).getD 0=c:=by injection hc with hc;injection hc
 rw [<-this];exact hK
theorem Qh {ops:Array Oper} {rest:List Oper} {o:Oper} {a:Act} {Q:Exit->Act->World->Prop} (hg:o.guard=none) (m x:Operand) (t:TypeId) (jf:o.op=Op.lookup t m x true)
  (hk:P.underlying k=some .string) (ht:P.underlying t=some (.map k e)) (he:P.underlying e=some (.int .i64)) (hz:(zeroValue e).run P w = .ok (.int .i64 0) w)
  (b n:Nat) (f:ByteArray->Option Int) (s:ByteArray) (hm:a.eval m = .map (some b)) (ae:Jz P k e w b n f) (hx:a.eval x = .string s) (hs:s.size<=maxLen)
  (hK:wpList P ops Q rest (a.put o.dst (.tuple #[.int .i64 ((f s).getD 0),.bool (f s).isSome])) w):wpList P ops Q (o :: rest) a w:=by
 obtain⟨D,h1,h2,h3⟩:=ae;refine wpList_lookup_own_ok_int w hg m x t jf k e .i64 (string_keyed hk) ht he hz b n D hm h1 _ _ hx (keyOf_string_mk hk hs) fun c hc _=>?_;rw [(h3 s).2] at hc;have:(f s).getD 0=c:=by injection hc with hc;injection hc
 rw [<-this,(h3 s).1];exact hK
theorem Jau {ops:Array Oper} {rest:List Oper} {o:Oper} {a:Act} {Q:Exit->Act->World->Prop} (hg:o.guard=none) (m x v:Operand) (t:TypeId) (jf:o.op=Op.mapUpdate t m x v)
  (hk:P.underlying k=some .string) (ht:P.underlying t=some (.map k e)) (he:P.underlying e=some (.int .i64))
  (b n:Nat) (f:ByteArray->Option Int) (s:ByteArray) (i:Int) (hm:a.eval m = .map (some b)) (ae:Jz P k e w b n f) (hn:n<1000000000) (hx:a.eval x = .string s) (hv:a.eval v = .int .i64 i)
  (hs:s.size<=maxLen) (hi : -9223372036854775808<=i/\i<=9223372036854775807)
  (hK:∀w',Jz P k e w' b (n+1) (upd f s i)->w.grownBy w' (some b)->wpList P ops Q rest (a.put o.dst undef) w'):wpList P ops Q (o :: rest) a w:=by
 obtain⟨D,h1,h2,h3⟩:=ae;refine wpList_mapUpdate_own w hg m x v t jf k e (string_keyed hk) ht _ b n D hm h1 (by unfold maxLen;omega) _ _ _ hx hv (keyOf_string_mk hk hs) _ [] (plainElem_int he (WalkArith.wf_i64 hi)) fun w' h4 h5=>hK w' ⟨_,h4,?_,fun t=>?_⟩ h5
 ·exact h2.put _ _
 ·by_cases aU:t.data=s.data
  ·have dz:WideAt.IsKeyLit (.string s.data.toList):=by trivial
   rw [aU,has_put_same h2 dz,atKey_put_same h2 dz];simp [upd,aU]
  ·have aS:(Lit.string t.data.toList)≠ .string s.data.toList:=by
    intro h;injection h with h;exact aU (by have:=congrArg List.toArray h;simpa using this)
   rw [has_put_other aS,atKey_put_other aS,(h3 t).1,(h3 t).2];simp [upd,aU]
end
end Go.Proofs.YtdgjplldlfeolaaGreatDoor
