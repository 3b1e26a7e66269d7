/- Lemmas. -/
import Derived.Test.YtknfcamdfdfoeaaGreatDoorMac
import Derived.WalkKit
import Derived.WalkSpells
import Derived.WalkLawsBesides
import Derived.Deep.QuietTactic
import Derived.BigQuiet
import Derived.Deep.Draws
import Derived.Lib.Hide
import Derived.Deep.LoopGhost
import Derived.StillTailTactics
import Derived.Deep.RegionHeld3
import Derived.Deep.RegionWith
import Derived.Lib.QuietBelow
import Derived.Test.YtknfcamdfdfoeaaGreatDoorRows
import Derived.ProofKit
import Derived.Deep.Slices
import Derived.Deep.Fields
import Derived.Lib.SmallJoins
import Derived.Laws.OwnMore
import Derived.Deep.RegionLaw
set_option linter.unusedVariables false
set_option linter.unusedSimpArgs false
set_option maxRecDepth 100000
set_option maxHeartbeats 64000000
namespace Go.Proofs.YtknfcamdfdfoeaaGreatDoor
open Go.RowKit
inductive Ex where
 | mk (kind n:Int) (name:ByteArray) (sub:List Ex)
structure Va where
 name:ByteArray
 type:Int
 ck:Int
 cn:ByteArray
structure Qe where
 name:ByteArray
 delay:Int
 first:Ex
 e:Ex
structure Pr where
 name:ByteArray
 ins:List Va
 outs:List Va
 locals:List Va
 eqs:List Qe
def I64 (x:Int):Prop:=-9223372036854775808<=x/\x<=9223372036854775807
def I32 (x:Int):Prop:=-2147483648<=x/\x<=2147483647
namespace Ex
def kind:Ex->Int|mk k _ _ _=>k
def n:Ex->Int|mk _ n _ _=>n
def name:Ex->ByteArray|mk _ _ s _=>s
def sub:Ex->List Ex|mk _ _ _ l=>l
def zero:Ex:=mk 0 0 ⟨#[]⟩ []
mutual
def size:Ex->Nat
 | mk _ _ _ l=>sizeL l+1
def sizeL:List Ex->Nat
 | []=>0
 | x :: l=>size x+sizeL l
end
theorem size_eq (e:Ex):e.size=sizeL e.sub+1:=by cases e;simp [size,sub]
theorem size_mem:∀(l:List Ex) (k:Nat) (x:Ex),l[k]?=some x->x.size<=sizeL l
 | [],k,x,h=>Lt
 | y :: l,0,x,h=>by simp at h;subst h;simp [sizeL]
 | y :: l,k+1,x,h=>by
  have:=size_mem l k x Ve;simp [sizeL];omega
theorem size_sub {e x:Ex} {k:Nat} (h:e.sub[k]?=some x):x.size<e.size:=by
 have:=size_mem _ _ _ h;rw [size_eq e];omega
theorem ind {p:Ex->Prop} (h:∀e,(∀x∈e.sub,p x)->p e) (e:Ex):p e:=by
 have:∀n (e:Ex),e.size<=n->p e:=by
  intro n
  induction n with
  | zero=>intro e he;rw [size_eq] at he;omega
  | succ n ih=>
   intro e he;refine h e fun x hx=>ih x ?_;obtain⟨k,hk⟩:=List.mem_iff_getElem?.1 hx;have:=size_sub hk;omega
 exact this _ e (Nat.le_refl _)
mutual
def OK:Ex->Prop
 | mk k n s l=>I64 k/\I32 n/\s.size<=maxLen/\OKL l
def OKL:List Ex->Prop
 | []=>True
 | x :: l=>OK x/\OKL l
end
theorem OKL_mem:∀ {l:List Ex},OKL l->∀x∈l,OK x
 | [],_,x,hx=>by cases hx
 | y :: l,h,x,hx=>by
  simp only [OKL] at h
  rcases List.mem_cons.1 hx with rfl|hx
  ·exact h.1
  ·exact OKL_mem h.2 x hx
theorem OK_sub {e x:Ex} (h:OK e) (hx:x∈e.sub):OK x:=by
 cases e;simp only [OK,sub] at *;exact OKL_mem h.2.2.2 x hx
mutual
def count:Ex->Int->Int
 | mk _ _ _ l,most=>countL l 1 most
def countL:List Ex->Int->Int->Int
 | [],n,_=>n
 | x :: l,n,most=>if n>=most then n else countL l (n+count x (most-n)) most
end
theorem count_eq (e:Ex) (most:Int):e.count most=countL e.sub 1 most:=by cases e;simp [count,sub]
theorem Jh1:∀(l:List Ex),(∀x∈l,∀m,1<=count x m/\count x m<=max 1 m)->∀n m,1<=n->n<=max 1 m->n<=countL l n m/\countL l n m<=max 1 m
 | [],_,n,m,h1,h2=>by simp [countL];omega
 | x :: l,hx,n,m,h1,h2=>by
  simp only [countL]
  split
  ·exact⟨Ua,Ua⟩
  ·have:=hx x Ul (m-n);have:=Jh1 l (fun y hy=>hx y F0) (n+count x (m-n)) m Ua Ua;exact⟨Ua,Ua⟩
theorem count_bd (e:Ex):∀m,1<=count e m/\count e m<=max 1 m:=by
 induction e using ind with
 | h e ih=>
  intro m;rw [count_eq];have:=Jh1 e.sub ih 1 m Ua Ua;exact⟨Ua,Ua⟩
theorem Jjc:∀(l:List Ex),(∀x∈l,∀m,count x m<m->count x m=x.size)->∀n m,1<=n->countL l n m<m->countL l n m=n+sizeL l
 | [],_,n,m,_,h=>by simp [countL,sizeL]
 | x :: l,hx,n,m,h1,h=>by
  simp only [countL,sizeL] at h ⊢
  split at h
  ·exact Ua
  ·rename_i qK;rw [if_neg qK];have hb:=count_bd x (m-n);have hl:=Jh1 l (fun y _=>count_bd y) (n+count x (m-n)) m Ua Ua;have:=hx x Ul (m-n) Ua;have:=Jjc l (fun y hy=>hx y F0) (n+count x (m-n)) m Ua h;exact Ua
theorem count_size (e:Ex):∀m,count e m<m->count e m=e.size:=by
 induction e using ind with
 | h e ih=>
  intro m h;rw [count_eq] at h ⊢;rw [Jjc e.sub ih 1 m Ua h,size_eq];omega
mutual
def depth:Ex->Int
 | mk _ _ _ l=>depthL l 0+1
def depthL:List Ex->Int->Int
 | [],n=>n
 | x :: l,n=>depthL l (max n (depth x))
end
theorem depth_eq (e:Ex):e.depth=depthL e.sub 0+1:=by cases e;simp [depth,sub]
theorem Jnm:∀(l:List Ex),(∀x∈l,1<=depth x/\depth x<=x.size)->∀n,n<=depthL l n/\depthL l n<=max n (sizeL l)
 | [],_,n=>by simp [depthL];omega
 | x :: l,hx,n=>by
  have:=hx x Ul;have:=Jnm l (fun y hy=>hx y F0) (max n (depth x));simp only [depthL,sizeL];exact Ua
theorem depth_bd (e:Ex):1<=depth e/\depth e<=e.size:=by
 induction e using ind with
 | h e ih=>
  rw [depth_eq,size_eq];have:=Jnm e.sub ih 0;omega
end Ex
end Go.Proofs.YtknfcamdfdfoeaaGreatDoor
namespace Go.Proofs.YtknfcamdfdfoeaaGreatDoor
open Go.RowKit Go.Sort
theorem Jd {w a b:World} (h:Below w.heap.size w a) (k:Below a.heap.size a b):Below w.heap.size w b:=h.trans (k.mono h.size)
theorem Jh {w a:World} (h:Below w.heap.size w a):Below w.heap.size w a.drew:=h.drew
theorem J8 {w a:World} (h:Below w.heap.size w a) (n:Nat):Below w.heap.size w (a.drewN n):=⟨h.os,h.tape,h.output,h.size,h.block⟩
theorem Jc {w a:World} (h:Below w.heap.size w a) (o:Obj):Below w.heap.size w (a.alloc o):=h.alloc h.size o
theorem Jb {n:Nat} {a b:World} (h:Below n a b:=by repeat (first|exact Below.refl _ _|(with_reducible assumption)|refine Jd ?_ Uf|refine Jd ?_ (below_regrown _ _ _)|refine Jh ?_|refine J8 ?_ _|refine Jc ?_ _|refine Jn ?_ Uf Ua)):Below n a b:=h
theorem Km {n:Nat} {a b:World} (h:Below n a b:=by repeat (first|exact Below.refl _ _|(with_reducible assumption)|refine Jd ?_ Uf|refine Below.setCell ?_ Ul _|refine Jc ?_ _|refine Jn ?_ Uf Ua)):Below n a b:=h
theorem Jlo {n:Nat} {a b:World} (h:Below n a b:=by(repeat refine Jh ?_);repeat (first|exact Below.refl _ _|(with_reducible assumption)|refine Jd ?_ Uf|refine Below.setCell ?_ (by simp <;> omega) _|refine Jc ?_ _|refine Jh ?_|refine Jn ?_ Uf Ua)):Below n a b:=h
theorem lt0 (a b:World) (h:a.heap.size<b.heap.size:=by omega):a.heap.size<b.heap.size:=h
theorem ltA (a:World) (k:Nat) (b:World) (h:a.heap.size+k<b.heap.size:=by omega):a.heap.size+k<b.heap.size:=h
theorem Ja {w a:World} (h:Below w.heap.size w a) {p:Addr} {v:Value} (hc:w.cell? p=some v):a.cell? p=some v:=by
 rw [h.cell (block_lt_of_cell hc)];exact hc
theorem Jg {W w1:World} (hb:Below W.heap.size W w1):∀b o,b<W.heap.size->w1.cell? ⟨b,o,none⟩=W.cell? ⟨b,o,none⟩:=fun b o h=>hb.cell (p:=⟨b,o,none⟩) h
theorem aft {W w1:World} (hb:Below W.heap.size W w1):(∀b o,b<W.heap.size->w1.cell? ⟨b,o,none⟩=W.cell? ⟨b,o,none⟩)/\W.heap.size<=w1.heap.size:=⟨Jg hb,hb.size⟩
theorem Kl {α:Type} {l:List α} {k:Nat} (h:k<l.length):∃x,l[k]?=some x/\x∈l/\l.drop k=x :: l.drop (k+1):=⟨l[k],List.getElem?_eq_getElem h,List.getElem_mem h,List.drop_eq_getElem_cons h⟩
theorem Jf {W w1:World} (hb:Below W.heap.size W w1):∀b o,b<W.heap.size->w1.frozen? ⟨b,o,none⟩=W.frozen? ⟨b,o,none⟩:=fun b o h=>hb.frozen (p:=⟨b,o,none⟩) h
theorem Jo {P:Program} {c:Code} {Q:Exit->Act->World->Prop} {a:Act} {W:World} (h:∀W0,W0=W->c.wp P Q a W0):c.wp P Q a W:=h W rfl
theorem J4 {w:World} {o:Obj} {p:Addr} {v:Value} (hc:w.cell? p=some v):(w.alloc o).cell? p=some v:=Ja (Jc (Below.refl _ _) o) hc
theorem Zw {w:World} {p:Addr} {v:Value} (hc:w.cell? p=some v):w.drew.cell? p=some v:=hc
theorem Jx {P:Program} {id:Nat} {Q:Exit->Act->World->Prop} {a:Act} {w:World} {l:List Oper} (hm:P.follows .mixedOrders=true) (hB:Region.lexB .any l.toArray=true)
  (h:(∀(d:Nat) (os:Array Obj) (p:Addr),p.block<w.heap.size->(grow (redrawn w d) os).cell? p=w.cell? p)->
   wpQuiet P l.toArray (fun w'=>∃p:Regrown,w'=grow (redrawn w p.d) p.os) (fun a'=>∀w',(∃p:Regrown,w'=grow (redrawn w p.d) p.os)->Q .normal a' w') l a):(Code.region id l.toArray true).wp P Q a w:=
 wp_region_quiet_below hm hB (h fun d os _ hp=>(below_regrown w d os).cell hp)
theorem Jfg {w w':World} (h:∃p:Regrown,w'=grow (redrawn w p.d) p.os):Below w.heap.size w w':=by
 obtain⟨p,rfl⟩:=h;exact below_regrown w p.d p.os
theorem qbo {w w':World} (h:∃p:Regrown,w'=grow (redrawn w p.d) p.os):Below w.heap.size w w'/\(∀b o,b<w.heap.size->w'.cell? ⟨b,o,none⟩=w.cell? ⟨b,o,none⟩)/\w.heap.size<=w'.heap.size:=⟨Jfg h,Jg (Jfg h),(Jfg h).size⟩
mutual
def Jt (w:World):Ex->Option Addr->Nat->Prop
 | .mk _ _ _ l,A,cap=>l.length<=cap/\cap<=maxLen/\(0<l.length->∃b off,A=some ⟨b,off,none⟩/\Xv w b l off)
def Xv (w:World) (b:Nat):List Ex->Nat->Prop
 | [],_=>True
 | e :: l,off=>(∃A cap,w.cell? ⟨b,off,none⟩=some (.int .i64 e.kind)/\w.cell? ⟨b,off+1,none⟩=some (.int .i32 e.n)/\w.cell? ⟨b,off+2,none⟩=some (.string e.name)/\
   w.cell? ⟨b,off+3,none⟩=some (.slice A e.sub.length cap)/\Jt w e A cap)/\Xv w b l (off+4)
end
theorem Jao {w:World} {e:Ex} {A:Option Addr} {cap:Nat} : Jt w e A cap<->e.sub.length<=cap/\cap<=maxLen/\(0<e.sub.length->∃b off,A=some ⟨b,off,none⟩/\Xv w b e.sub off):=by
 cases e;simp [Jt,Ex.sub]
theorem Xv.get {w:World} {b:Nat} : ∀ {l:List Ex} {off k:Nat} {x:Ex},Xv w b l off->l[k]?=some x->
  ∃A cap,w.cell? ⟨b,off+k * 4,none⟩=some (.int .i64 x.kind)/\w.cell? ⟨b,off+k * 4+1,none⟩=some (.int .i32 x.n)/\w.cell? ⟨b,off+k * 4+2,none⟩=some (.string x.name)/\
   w.cell? ⟨b,off+k * 4+3,none⟩=some (.slice A x.sub.length cap)/\Jt w x A cap
 | [],off,k,x,_,h=>Lt
 | e :: l,off,0,x,h,hk=>by
  simp at hk;subst hk;simp only [Xv] at h;simpa using h.1
 | e :: l,off,k+1,x,h,hk=>by
  simp only [Xv] at h;have:=h.2.get (k:=k) Vw;have e1:off+4+k * 4=off+(k+1) * 4:=Ua
  rwa [e1] at this
mutual
theorem Jt.keep {w w':World} (hw:∀ {p:Addr} {v:Value},w.cell? p=some v->w'.cell? p=some v):∀(e:Ex) {A:Option Addr} {cap:Nat},Jt w e A cap->Jt w' e A cap
 | .mk _ _ _ l,A,cap,h=>by
  simp only [Jt] at h ⊢;refine⟨h.1,h.2.1,fun hl=>?_⟩;obtain⟨b,off,hA,hr⟩:=h.2.2 hl;exact⟨b,off,hA,Xv.keep hw l hr⟩
theorem Xv.keep {w w':World} (hw:∀ {p:Addr} {v:Value},w.cell? p=some v->w'.cell? p=some v) {b:Nat} : ∀(l:List Ex) {off:Nat},Xv w b l off->Xv w' b l off
 | [],off,_=>by simp [Xv]
 | e :: l,off,h=>by
  simp only [Xv] at h ⊢;obtain⟨⟨A,cap,h0,h1,h2,h3,h4⟩,hr⟩:=h;exact⟨⟨A,cap,hw h0,hw h1,hw h2,hw h3,Jt.keep hw e h4⟩,Xv.keep hw l hr⟩
end
theorem Jt.later {w w':World} {e:Ex} {A:Option Addr} {cap:Nat} (h:Jt w e A cap) (hb:Below w.heap.size w w'):Jt w' e A cap:=Jt.keep (fun hc=>Ja hb hc) e h
theorem Jt.get {w:World} {e x:Ex} {A:Option Addr} {cap k:Nat} (h:Jt w e A cap) (hk:e.sub[k]?=some x):∃b off A' cap',A=some ⟨b,off,none⟩/\
  w.cell? ⟨b,off+k * 4,none⟩=some (.int .i64 x.kind)/\w.cell? ⟨b,off+k * 4+1,none⟩=some (.int .i32 x.n)/\w.cell? ⟨b,off+k * 4+2,none⟩=some (.string x.name)/\
   w.cell? ⟨b,off+k * 4+3,none⟩=some (.slice A' x.sub.length cap')/\Jt w x A' cap':=by
 rw [Jao] at h;have am:k<e.sub.length:=(List.getElem?_eq_some_iff.1 hk).1;obtain⟨b,off,hA,hr⟩:=h.2.2 Ua;obtain⟨A',cap',h0,h1,h2,h3,h4⟩:=hr.get hk;exact⟨b,off,A',cap',hA,h0,h1,h2,h3,h4⟩
theorem Jt.len {w:World} {e:Ex} {A:Option Addr} {cap:Nat} (h:Jt w e A cap):e.sub.length<=cap/\cap<=maxLen:=by
 rw [Jao] at h;exact⟨h.1,h.2.1⟩
theorem Jm {k:IntKind} {a b:Int} (h:a=b):Ending.returned (.int k a) = .returned (.int k b):=Ti
theorem Jk {a b:Bool} (h:a=b):Ending.returned (.bool a) = .returned (.bool b):=Ti
theorem Kk {a b:ByteArray} (h:a=b):Ending.returned (.string a) = .returned (.string b):=Ti
def exV (e:Ex) (A:Option Addr) (cap:Nat):Value:= .agg #[.int .i64 e.kind,.int .i32 e.n,.string e.name,.slice A e.sub.length cap]
structure Jfc (w:World) (b off:Nat) (v:Va):Prop where
 c0:w.cell? ⟨b,off,none⟩=some (.string v.name)
 c1:w.cell? ⟨b,off+1,none⟩=some (.int .i64 v.type)
 c2:w.cell? ⟨b,off+2,none⟩=some (.int .i64 v.ck)
 c3:w.cell? ⟨b,off+3,none⟩=some (.string v.cn)
def vaV (v:Va):Value:= .agg #[.string v.name,.int .i64 v.type,.int .i64 v.ck,.string v.cn]
def Ju (w:World) (l:List Va) (A:Option Addr) (cap:Nat):Prop:=
 l.length<=cap/\cap<=maxLen/\(0<l.length->∃b off,A=some ⟨b,off,none⟩/\∀k v,l[k]?=some v->Jfc w b (off+k * 4) v)
structure Jgf (w:World) (b off:Nat) (q:Qe) (A1:Option Addr) (c1:Nat) (A2:Option Addr) (c2:Nat):Prop where
 g0:w.cell? ⟨b,off,none⟩=some (.string q.name)
 g1:w.cell? ⟨b,off+1,none⟩=some (.int .i64 q.delay)
 g2:w.cell? ⟨b,off+2,none⟩=some (.int .i64 q.first.kind)
 g3:w.cell? ⟨b,off+3,none⟩=some (.int .i32 q.first.n)
 g4:w.cell? ⟨b,off+4,none⟩=some (.string q.first.name)
 g5:w.cell? ⟨b,off+5,none⟩=some (.slice A1 q.first.sub.length c1)
 g6:w.cell? ⟨b,off+6,none⟩=some (.int .i64 q.e.kind)
 g7:w.cell? ⟨b,off+7,none⟩=some (.int .i32 q.e.n)
 g8:w.cell? ⟨b,off+8,none⟩=some (.string q.e.name)
 g9:w.cell? ⟨b,off+9,none⟩=some (.slice A2 q.e.sub.length c2)
 s1:Jt w q.first A1 c1
 s2:Jt w q.e A2 c2
def qeV (q:Qe) (A1:Option Addr) (c1:Nat) (A2:Option Addr) (c2:Nat):Value:=
 .agg #[.string q.name,.int .i64 q.delay,.int .i64 q.first.kind,.int .i32 q.first.n,.string q.first.name,.slice A1 q.first.sub.length c1,.int .i64 q.e.kind,.int .i32 q.e.n,.string q.e.name,.slice A2 q.e.sub.length c2]
def Jap (w:World) (l:List Qe) (A:Option Addr) (cap:Nat):Prop:=
 l.length<=cap/\cap<=maxLen/\(0<l.length->∃b off,A=some ⟨b,off,none⟩/\∀k q,l[k]?=some q->∃A1 c1 A2 c2,Jgf w b (off+k * 10) q A1 c1 A2 c2)
theorem Jfc.later {w w':World} {b off:Nat} {v:Va} (h:Jfc w b off v) (hb:Below w.heap.size w w'):Jfc w' b off v:=
 ⟨Ja hb h.c0,Ja hb h.c1,Ja hb h.c2,Ja hb h.c3⟩
theorem Ju.later {w w':World} {l:List Va} {A:Option Addr} {cap:Nat} (h:Ju w l A cap) (hb:Below w.heap.size w w'):Ju w' l A cap:=
 ⟨h.1,h.2.1,fun hl=>by
  obtain⟨b,off,hA,hr⟩:=h.2.2 hl;exact⟨b,off,hA,fun k v hk=>(hr k v hk).later hb⟩⟩
theorem Ju.get {w:World} {l:List Va} {A:Option Addr} {cap k:Nat} {v:Va} (h:Ju w l A cap) (hk:l[k]?=some v):∃b off,A=some ⟨b,off,none⟩/\b<w.heap.size/\Jfc w b (off+k * 4) v:=by
 have am:k<l.length:=(List.getElem?_eq_some_iff.1 hk).1;obtain⟨b,off,hA,hr⟩:=h.2.2 Ua;exact⟨b,off,hA,block_lt_of_cell (hr k v hk).c0,hr k v hk⟩
theorem Ju.len {w:World} {l:List Va} {A:Option Addr} {cap:Nat} (h:Ju w l A cap):l.length<=cap/\cap<=maxLen:=⟨h.1,h.2.1⟩
theorem Jgf.later {w w':World} {b off:Nat} {q:Qe} {A1:Option Addr} {c1:Nat} {A2:Option Addr} {c2:Nat} (h:Jgf w b off q A1 c1 A2 c2) (hb:Below w.heap.size w w'):Jgf w' b off q A1 c1 A2 c2:=
 ⟨Ja hb h.g0,Ja hb h.g1,Ja hb h.g2,Ja hb h.g3,Ja hb h.g4,Ja hb h.g5,Ja hb h.g6,Ja hb h.g7,Ja hb h.g8,Ja hb h.g9,h.s1.later hb,h.s2.later hb⟩
theorem Jap.later {w w':World} {l:List Qe} {A:Option Addr} {cap:Nat} (h:Jap w l A cap) (hb:Below w.heap.size w w'):Jap w' l A cap:=
 ⟨h.1,h.2.1,fun hl=>by
  obtain⟨b,off,hA,hr⟩:=h.2.2 hl
  exact⟨b,off,hA,fun k v hk=>by
   obtain⟨A1,c1,A2,c2,h⟩:=hr k v hk;exact⟨A1,c1,A2,c2,h.later hb⟩⟩⟩
theorem Jap.get {w:World} {l:List Qe} {A:Option Addr} {cap k:Nat} {q:Qe} (h:Jap w l A cap) (hk:l[k]?=some q):∃b off A1 c1 A2 c2,A=some ⟨b,off,none⟩/\b<w.heap.size/\Jgf w b (off+k * 10) q A1 c1 A2 c2:=by
 have am:k<l.length:=(List.getElem?_eq_some_iff.1 hk).1;obtain⟨b,off,hA,hr⟩:=h.2.2 Ua;obtain⟨A1,c1,A2,c2,h⟩:=hr k q hk;exact⟨b,off,A1,c1,A2,c2,hA,block_lt_of_cell h.g0,h⟩
theorem Jap.len {w:World} {l:List Qe} {A:Option Addr} {cap:Nat} (h:Jap w l A cap):l.length<=cap/\cap<=maxLen:=⟨h.1,h.2.1⟩
structure PrA where
 A1:Option Addr
 c1:Nat
 A2:Option Addr
 c2:Nat
 A3:Option Addr
 c3:Nat
 A4:Option Addr
 c4:Nat
structure Kr (w:World) (p:Pr) (a:PrA):Prop where
 ins:Ju w p.ins a.A1 a.c1
 outs:Ju w p.outs a.A2 a.c2
 locals:Ju w p.locals a.A3 a.c3
 eqs:Jap w p.eqs a.A4 a.c4
theorem Kr.later {w w':World} {p:Pr} {a:PrA} (h:Kr w p a) (hb:Below w.heap.size w w'):Kr w' p a:=⟨h.ins.later hb,h.outs.later hb,h.locals.later hb,h.eqs.later hb⟩
def prV (p:Pr) (a:PrA):Value:= .agg #[.string p.name,.slice a.A1 p.ins.length a.c1,.slice a.A2 p.outs.length a.c2,.slice a.A3 p.locals.length a.c3,.slice a.A4 p.eqs.length a.c4]
end Go.Proofs.YtknfcamdfdfoeaaGreatDoor
namespace Go.Proofs.YtknfcamdfdfoeaaGreatDoor
open Go.ChangeShapes Go.WideShapes Go.ChangeAt Go.RowKit Go.Deep
section
variable {H:Type} {enc:TypeId×Value->H} {w:World} {spare:Nat->Bool} {held:Bool}
theorem Ji2 {α:Type} (R:Nat->α->Prop):∀n,(∀i,i<n->∃x,R i x)->∃l:List α,l.length=n/\∀(k:Nat) (x:α),l[k]?=some x->R k x
 | 0,_=>⟨[],rfl,fun k x h=>Lt⟩
 | n+1,h=>by
  obtain⟨l,hl,hr⟩:=Ji2 R n fun i hi=>h i Ua;obtain⟨x,hx⟩:=h n Ua;refine⟨l ++ [x],by simp [hl],fun k y hk=>?_⟩
  by_cases xg:k<l.length
  ·rw [List.getElem?_append_left xg] at hk;exact hr k y hk
  ·rw [List.getElem?_append_right Ua] at hk
   have h0:k-l.length=0:=by
    rcases Nat.eq_zero_or_pos (k-l.length) with h|h
    ·exact h
    ·rw [List.getElem?_eq_none Uj] at hk;cases hk
   rw [h0] at hk;obtain rfl:x=y:=Vw;have:k=n:=Ua;rw [this];exact hx
theorem Jpe {b:Nat} : ∀(l:List Ex) (off:Nat),(∀(k:Nat) (x:Ex),l[k]?=some x->∃A cap,w.cell? ⟨b,off+k * 4,none⟩=some (.int .i64 x.kind)/\w.cell? ⟨b,off+k * 4+1,none⟩=some (.int .i32 x.n)/\w.cell? ⟨b,off+k * 4+2,none⟩=some (.string x.name)/\
   w.cell? ⟨b,off+k * 4+3,none⟩=some (.slice A x.sub.length cap)/\Jt w x A cap)->Xv w b l off
 | [],off,_=>by simp [Xv]
 | x :: l,off,h=>by
  rw [Xv];refine⟨?_,Jpe l (off+4) fun k y hk=>?_⟩
  ·simpa using h 0 x rfl
  ·have:=h (k+1) y Vw
   rwa [show off+(k+1) * 4=off+4+k * 4 from by omega] at this
theorem Jut:∀ {l:List Ex},(∀x∈l,Ex.OK x)->Ex.OKL l
 | [],_=>by simp [Ex.OKL]
 | x :: l,h=>by
  simp only [Ex.OKL];exact⟨h x Ul,Jut fun y hy=>h y F0⟩
theorem Jh5 {k:Int} (h:(Lit.int .i64 k).wf=true):I64 k:=by
 simp [Lit.wf,IntKind.min,IntKind.max,IntKind.signed,IntKind.bits] at h;unfold I64;omega
theorem Ju1 {k:Int} (h:(Lit.int .i32 k).wf=true):I32 k:=by
 simp [Lit.wf,IntKind.min,IntKind.max,IntKind.signed,IntKind.bits] at h;unfold I32;omega
theorem Jdi:Tryz.prog.cellsOf 3=1:=Ug
theorem Jrz:Tryz.prog.cellsOf 21=1:=Ug
theorem Ja1:Tryz.prog.cellsOf 9=1:=Ug
theorem Jeq:Tryz.prog.cellsOf 55=2:=Ug
theorem Jps:Tryz.prog.cellsOf 57=4:=Ug
theorem Jh9:Tryz.prog.cellsOf 22=1:=Ug
theorem Jfu:Tryz.prog.cellsOf 51=4:=Ug
theorem Jr1:Tryz.prog.cellsOf 49=1:=Ug
theorem Jq6:Tryz.prog.cellsOf 53=10:=Ug
theorem Jvw:Tryz.prog.cellsOf 23=1:=Ug
theorem Jp4:Tryz.prog.cellsOf 25=5:=Ug
theorem Jj8 {a:Addr} {n:Nat} {cs:List Value} (h:w.cells? 0 a n=some cs):cs.length=n/\∀j v,cs[j]?=some v->w.cell? (a.add j)=some v:=by
 obtain⟨_,hl,hc⟩:=World.cells?_some h;refine⟨hl,fun j v hj=>?_⟩;have am:j<n:=by rw [<-hl];exact(List.getElem?_eq_some_iff.1 hj).1
 rw [hc j am,hj]
theorem Jq9:∀(fuel:Nat) (cs:List Value) (x:DataW H×List MemPlace),DataW.trod enc Tryz.prog w 0 spare held fuel 51 cs=some x->
  ∃(e:Ex) (A:Option Addr) (cap:Nat),cs = [.int .i64 e.kind,.int .i32 e.n,.string e.name,.slice A e.sub.length cap]/\Jt w e A cap/\e.OK:=by
 intro fuel
 induction fuel using Nat.strongRecOn with
 | ind fuel ih=>
 intro cs x h;obtain⟨xs,n,rfl,hx,ai,lB,hg⟩:=DataW.trod_struct Tryz.underlying51 h;rw [Jfu] at ai
 match cs,ai,xs,lB with
 | [c0,c1,c2,c3],_,[y0,y1,y2,y3],_=>
  have g0:DataW.trod enc Tryz.prog w 0 spare held n 3 (([c0,c1,c2,c3].drop 0).take (Tryz.prog.cellsOf 3))=some y0:=hg 0 _ rfl;rw [Jdi] at g0;have g1:DataW.trod enc Tryz.prog w 0 spare held n 21 (([c0,c1,c2,c3].drop 1).take (Tryz.prog.cellsOf 21))=some y1:=hg 1 _ rfl;rw [Jrz] at g1;have g2:DataW.trod enc Tryz.prog w 0 spare held n 9 (([c0,c1,c2,c3].drop 2).take (Tryz.prog.cellsOf 9))=some y2:=hg 2 _ rfl;rw [Ja1] at g2;have g3:DataW.trod enc Tryz.prog w 0 spare held n 49 (([c0,c1,c2,c3].drop 3).take (Tryz.prog.cellsOf 49))=some y3:=hg 3 _ rfl;rw [Jr1] at g3;obtain⟨k,hk,_,wk⟩:=DataW.trod_int Tryz.underlying3 g0;obtain⟨m,hm,_,wm⟩:=DataW.trod_int Tryz.underlying21 g1;obtain⟨s,hs,_,ws⟩:=DataW.trod_string Tryz.underlying9 g2;simp at hk hm hs;subst hk hm hs
  rcases DataW.trod_slice Tryz.underlying49 g3 with ⟨hc,_⟩|⟨a,len,cap,elems,rest,n',wg,hc,_,_,hl,mH,ot,iD,_,_⟩
  ·simp at hc;subst hc;refine⟨.mk k m s [],none,0,rfl,?_,?_⟩
   ·rw [Jao];exact⟨Nat.le_refl _,U2,fun h=>absurd h (by simp [Ex.sub])⟩
   ·simp only [Ex.OK,Ex.OKL];exact⟨Jh5 wk,Ju1 wm,ws,trivial⟩
  ·simp at hc;subst hc;rw [Jfu] at iD
   obtain⟨l,cY,hr⟩:=Ji2 (fun i (e:Ex)=>∃(A:Option Addr) (cap:Nat),w.cell? ((a.add (i * 4)).add 0)=some (.int .i64 e.kind)/\w.cell? ((a.add (i * 4)).add 1)=some (.int .i32 e.n)/\w.cell? ((a.add (i * 4)).add 2)=some (.string e.name)/\
     w.cell? ((a.add (i * 4)).add 3)=some (.slice A e.sub.length cap)/\Jt w e A cap/\e.OK) len (fun i hi=>by
    have:=iD i hi;rw [List.getElem?_eq_getElem Ua] at this;obtain⟨cs',h1,h2⟩:=Option.bind_eq_some_iff.1 this;obtain⟨e,A,cap',rfl,h3,h4⟩:=ih n' Ua cs' _ h2;obtain⟨_,aY⟩:=Jj8 h1;exact⟨e,A,cap',aY 0 _ rfl,aY 1 _ rfl,aY 2 _ rfl,aY 3 _ rfl,h3,h4⟩)
   refine⟨.mk k m s l,some a,cap,by simp [Ex.kind,Ex.n,Ex.name,Ex.sub,cY],?_,?_⟩
   ·rw [Jao];refine⟨by simp [Ex.sub];omega,mH,fun hp=>?_⟩;simp only [Ex.sub] at hp;obtain⟨b,off,spot⟩:=a
    have kA:spot=none:=by
     obtain⟨A,cap',h0,_⟩:=hr 0 l[0] (List.getElem?_eq_getElem hp);simpa [Addr.add] using World.cell?_spot h0
    subst kA;refine⟨b,off,rfl,Jpe _ _ fun k x hk=>?_⟩;obtain⟨A,cap',h0,h1,h2,h3,h4,_⟩:=hr k x (by simpa [Ex.sub] using hk);simp only [Go.WideShapes.add_plain] at h0 h1 h2 h3;exact⟨A,cap',h0,h1,h2,h3,h4⟩
   ·simp only [Ex.OK];refine⟨Jh5 wk,Ju1 wm,ws,Jut fun x hx=>?_⟩;obtain⟨i,hi⟩:=List.getElem?_of_mem hx;obtain⟨_,_,_,_,_,_,_,h⟩:=hr i x hi;exact h
def Jmh (v:Va):Prop:=v.name.size<=maxLen/\I64 v.type/\I64 v.ck/\v.cn.size<=maxLen
theorem Jx9 {fuel:Nat} {cs:List Value} {x:DataW H×List MemPlace} (h:DataW.trod enc Tryz.prog w 0 spare held fuel 57 cs=some x) :
  ∃v:Va,cs = [.string v.name,.int .i64 v.type,.int .i64 v.ck,.string v.cn]/\Jmh v:=by
 obtain⟨xs,n,rfl,hx,ai,lB,hg⟩:=DataW.trod_struct Tryz.underlying57 h;rw [Jps] at ai
 match cs,ai,xs,lB with
 | [c0,c1,c2,c3],_,[y0,y1,y2],_=>
  have g0:DataW.trod enc Tryz.prog w 0 spare held n 9 (([c0,c1,c2,c3].drop 0).take (Tryz.prog.cellsOf 9))=some y0:=hg 0 _ rfl;rw [Ja1] at g0;have g1:DataW.trod enc Tryz.prog w 0 spare held n 3 (([c0,c1,c2,c3].drop 1).take (Tryz.prog.cellsOf 3))=some y1:=hg 1 _ rfl;rw [Jdi] at g1;have g2:DataW.trod enc Tryz.prog w 0 spare held n 55 (([c0,c1,c2,c3].drop 2).take (Tryz.prog.cellsOf 55))=some y2:=hg 2 _ rfl;rw [Jeq] at g2;obtain⟨s,hs,_,ws⟩:=DataW.trod_string Tryz.underlying9 g0;obtain⟨k,hk,_,wk⟩:=DataW.trod_int Tryz.underlying3 g1;obtain⟨xs',n',rfl,_,_,hxl',hg'⟩:=DataW.trod_struct Tryz.underlying55 g2
  match xs',hxl' with
  | [z0,z1],_=>
   have k0:DataW.trod enc Tryz.prog w 0 spare held n' 3 (((([c0,c1,c2,c3].drop 2).take 2).drop 0).take (Tryz.prog.cellsOf 3))=some z0:=hg' 0 _ rfl;rw [Jdi] at k0;have k1:DataW.trod enc Tryz.prog w 0 spare held n' 9 (((([c0,c1,c2,c3].drop 2).take 2).drop 1).take (Tryz.prog.cellsOf 9))=some z1:=hg' 1 _ rfl;rw [Ja1] at k1;obtain⟨ck,aN,_,wck⟩:=DataW.trod_int Tryz.underlying3 k0;obtain⟨cn,qJ,_,wcn⟩:=DataW.trod_string Tryz.underlying9 k1;simp at hs hk aN qJ;subst hs hk aN qJ;exact⟨⟨s,k,ck,cn⟩,rfl,ws,Jh5 wk,Jh5 wck,wcn⟩
theorem Jh4 {fuel:Nat} {cs:List Value} {x:DataW H×List MemPlace} (h:DataW.trod enc Tryz.prog w 0 spare held fuel 22 cs=some x) :
  ∃(l:List Va) (A:Option Addr) (cap:Nat),cs = [.slice A l.length cap]/\Ju w l A cap/\∀v∈l,Jmh v:=by
 rcases DataW.trod_slice Tryz.underlying22 h with ⟨rfl,_⟩|⟨a,len,cap,elems,rest,n',wg,rfl,_,_,hl,mH,ot,iD,_,_⟩
 ·exact⟨[],none,0,rfl,⟨Nat.le_refl _,U2,fun h=>absurd h Ul⟩,Ul⟩
 ·rw [Jps] at iD
  obtain⟨l,cY,hr⟩:=Ji2 (fun i (v:Va)=>w.cell? ((a.add (i * 4)).add 0)=some (.string v.name)/\w.cell? ((a.add (i * 4)).add 1)=some (.int .i64 v.type)/\w.cell? ((a.add (i * 4)).add 2)=some (.int .i64 v.ck)/\
    w.cell? ((a.add (i * 4)).add 3)=some (.string v.cn)/\Jmh v) len (fun i hi=>by
   have:=iD i hi;rw [List.getElem?_eq_getElem Ua] at this;obtain⟨cs',h1,h2⟩:=Option.bind_eq_some_iff.1 this;obtain⟨v,rfl,h3⟩:=Jx9 h2;obtain⟨_,aY⟩:=Jj8 h1;exact⟨v,aY 0 _ rfl,aY 1 _ rfl,aY 2 _ rfl,aY 3 _ rfl,h3⟩)
  refine⟨l,some a,cap,by rw [cY],⟨Ua,mH,fun hp=>?_⟩,fun v hv=>?_⟩
  ·obtain⟨b,off,spot⟩:=a
   have kA:spot=none:=by
    obtain⟨h0,_⟩:=hr 0 l[0] (List.getElem?_eq_getElem hp);simpa [Addr.add] using World.cell?_spot h0
   subst kA;refine⟨b,off,rfl,fun k x hk=>?_⟩;obtain⟨h0,h1,h2,h3,_⟩:=hr k x hk;simp only [Go.WideShapes.add_plain] at h0 h1 h2 h3;exact⟨h0,h1,h2,h3⟩
  ·obtain⟨i,hi⟩:=List.getElem?_of_mem hv;exact(hr i v hi).2.2.2.2
def Jtj (q:Qe):Prop:=q.name.size<=maxLen/\I64 q.delay/\q.first.OK/\q.e.OK
theorem Jxq {fuel:Nat} {cs:List Value} {x:DataW H×List MemPlace} (h:DataW.trod enc Tryz.prog w 0 spare held fuel 53 cs=some x) :
  ∃(q:Qe) (A1:Option Addr) (c1:Nat) (A2:Option Addr) (c2:Nat),cs = [.string q.name,.int .i64 q.delay,.int .i64 q.first.kind,.int .i32 q.first.n,.string q.first.name,.slice A1 q.first.sub.length c1,.int .i64 q.e.kind,.int .i32 q.e.n,.string q.e.name,.slice A2 q.e.sub.length c2]/\
   Jt w q.first A1 c1/\Jt w q.e A2 c2/\Jtj q:=by
 obtain⟨xs,n,rfl,hx,ai,lB,hg⟩:=DataW.trod_struct Tryz.underlying53 h;rw [Jq6] at ai
 match cs,ai,xs,lB with
 | [c0,c1,c2,c3,c4,c5,c6,c7,c8,c9],_,[y0,y1,y2,y3],_=>
  have g0:DataW.trod enc Tryz.prog w 0 spare held n 9 (([c0,c1,c2,c3,c4,c5,c6,c7,c8,c9].drop 0).take (Tryz.prog.cellsOf 9))=some y0:=hg 0 _ rfl;rw [Ja1] at g0;have g1:DataW.trod enc Tryz.prog w 0 spare held n 3 (([c0,c1,c2,c3,c4,c5,c6,c7,c8,c9].drop 1).take (Tryz.prog.cellsOf 3))=some y1:=hg 1 _ rfl;rw [Jdi] at g1;have g2:DataW.trod enc Tryz.prog w 0 spare held n 51 (([c0,c1,c2,c3,c4,c5,c6,c7,c8,c9].drop 2).take (Tryz.prog.cellsOf 51))=some y2:=hg 2 _ rfl;rw [Jfu] at g2;have g3:DataW.trod enc Tryz.prog w 0 spare held n 51 (([c0,c1,c2,c3,c4,c5,c6,c7,c8,c9].drop 6).take (Tryz.prog.cellsOf 51))=some y3:=hg 3 _ rfl;rw [Jfu] at g3;obtain⟨s,hs,_,ws⟩:=DataW.trod_string Tryz.underlying9 g0;obtain⟨k,hk,_,wk⟩:=DataW.trod_int Tryz.underlying3 g1;obtain⟨e1,A1,k1,he1,bC,ln⟩:=Jq9 _ _ _ g2;obtain⟨e2,A2,k2,he2,bd,jm⟩:=Jq9 _ _ _ g3;simp at hs hk he1 he2;obtain⟨rfl,rfl,rfl,rfl⟩:=he1;obtain⟨rfl,rfl,rfl,rfl⟩:=he2;subst hs hk;exact⟨⟨s,k,e1,e2⟩,A1,k1,A2,k2,rfl,bC,bd,ws,Jh5 wk,ln,jm⟩
theorem Jwa {fuel:Nat} {cs:List Value} {x:DataW H×List MemPlace} (h:DataW.trod enc Tryz.prog w 0 spare held fuel 23 cs=some x) :
  ∃(l:List Qe) (A:Option Addr) (cap:Nat),cs = [.slice A l.length cap]/\Jap w l A cap/\∀q∈l,Jtj q:=by
 rcases DataW.trod_slice Tryz.underlying23 h with ⟨rfl,_⟩|⟨a,len,cap,elems,rest,n',wg,rfl,_,_,hl,mH,ot,iD,_,_⟩
 ·exact⟨[],none,0,rfl,⟨Nat.le_refl _,U2,fun h=>absurd h Ul⟩,Ul⟩
 ·rw [Jq6] at iD
  obtain⟨l,cY,hr⟩:=Ji2 (fun i (q:Qe)=>∃(A1:Option Addr) (c1:Nat) (A2:Option Addr) (c2:Nat),(∀j v,[.string q.name,.int .i64 q.delay,.int .i64 q.first.kind,.int .i32 q.first.n,.string q.first.name,.slice A1 q.first.sub.length c1,.int .i64 q.e.kind,.int .i32 q.e.n,.string q.e.name,Value.slice A2 q.e.sub.length c2][j]?=some v->w.cell? ((a.add (i * 10)).add j)=some v)/\
    Jt w q.first A1 c1/\Jt w q.e A2 c2/\Jtj q) len (fun i hi=>by
   have:=iD i hi;rw [List.getElem?_eq_getElem Ua] at this;obtain⟨cs',h1,h2⟩:=Option.bind_eq_some_iff.1 this;obtain⟨q,A1,c1,A2,c2,rfl,h3⟩:=Jxq h2;obtain⟨_,aY⟩:=Jj8 h1;exact⟨q,A1,c1,A2,c2,aY,h3⟩)
  refine⟨l,some a,cap,by rw [cY],⟨Ua,mH,fun hp=>?_⟩,fun q hq=>?_⟩
  ·obtain⟨b,off,spot⟩:=a
   have kA:spot=none:=by
    obtain⟨A1,c1,A2,c2,h0,_⟩:=hr 0 l[0] (List.getElem?_eq_getElem hp);simpa [Addr.add] using World.cell?_spot (h0 0 _ rfl)
   subst kA;refine⟨b,off,rfl,fun k x hk=>?_⟩;obtain⟨A1,c1,A2,c2,h0,h1,h2,_⟩:=hr k x hk;simp only [Go.WideShapes.add_plain] at h0;exact⟨A1,c1,A2,c2,⟨h0 0 _ rfl,h0 1 _ rfl,h0 2 _ rfl,h0 3 _ rfl,h0 4 _ rfl,h0 5 _ rfl,h0 6 _ rfl,h0 7 _ rfl,h0 8 _ rfl,h0 9 _ rfl,h1,h2⟩⟩
  ·obtain⟨i,hi⟩:=List.getElem?_of_mem hq;obtain⟨_,_,_,_,_,_,_,h⟩:=hr i q hi;exact h
structure Q4 (p:Pr):Prop where
 name:p.name.size<=maxLen
 ins:∀v∈p.ins,Jmh v
 outs:∀v∈p.outs,Jmh v
 locals:∀v∈p.locals,Jmh v
 eqs:∀q∈p.eqs,Jtj q
theorem Jxw {base:Nat} {v:Value} {d:DataW H} {ps:List MemPlace} (hv:Value.okWide Tryz.prog w .any base 25 v) (h:DataW.Trod enc Tryz.prog w 0 spare held 25 v d ps) :
  ∃(p:Pr) (a:PrA),v=prV p a/\Kr w p a/\Q4 p:=by
 obtain⟨cs,rfl,cE⟩:=okWide_struct Tryz.underlying25 hv;obtain⟨fuel,hf⟩:=h;obtain⟨xs,n,rfl,hx,ai,lB,hg⟩:=DataW.trod_struct Tryz.underlying25 hf;obtain⟨cs⟩:=cs;simp only [Value.cells] at ai hg;rw [Jp4] at ai
 match cs,ai,xs,lB with
 | [c0,c1,c2,c3,c4],_,[y0,y1,y2,y3,y4],_=>
  have g0:DataW.trod enc Tryz.prog w 0 spare held n 9 (([c0,c1,c2,c3,c4].drop 0).take (Tryz.prog.cellsOf 9))=some y0:=hg 0 _ rfl;rw [Ja1] at g0;have g1:DataW.trod enc Tryz.prog w 0 spare held n 22 (([c0,c1,c2,c3,c4].drop 1).take (Tryz.prog.cellsOf 22))=some y1:=hg 1 _ rfl;rw [Jh9] at g1;have g2:DataW.trod enc Tryz.prog w 0 spare held n 22 (([c0,c1,c2,c3,c4].drop 2).take (Tryz.prog.cellsOf 22))=some y2:=hg 2 _ rfl;rw [Jh9] at g2;have g3:DataW.trod enc Tryz.prog w 0 spare held n 22 (([c0,c1,c2,c3,c4].drop 3).take (Tryz.prog.cellsOf 22))=some y3:=hg 3 _ rfl;rw [Jh9] at g3;have g4:DataW.trod enc Tryz.prog w 0 spare held n 23 (([c0,c1,c2,c3,c4].drop 4).take (Tryz.prog.cellsOf 23))=some y4:=hg 4 _ rfl;rw [Jvw] at g4;obtain⟨s,hs,_,ws⟩:=DataW.trod_string Tryz.underlying9 g0;obtain⟨l1,A1,n1,h1,v1,o1⟩:=Jh4 g1;obtain⟨l2,A2,n2,h2,v2,o2⟩:=Jh4 g2;obtain⟨l3,A3,n3,h3,v3,o3⟩:=Jh4 g3;obtain⟨l4,A4,n4,h4,v4,o4⟩:=Jwa g4;simp at hs h1 h2 h3 h4;subst hs h1 h2 h3 h4;exact⟨⟨s,l1,l2,l3,l4⟩,⟨A1,n1,A2,n2,A3,n3,A4,n4⟩,rfl,⟨v1,v2,v3,v4⟩,⟨ws,o1,o2,o3,o4⟩⟩
end
section
variable {H:Type} {enc:TypeId×Value->H} {P:Program}
theorem Jn4 {f:Func} {s:ChangeSpec} {apart fresh handsOn again:Bool} {W W':World} {args:Array Value} {v:Value} {ds gs:List (DataW H)} {before pa pv:List MemPlace}
  (hW:DataW.Whole enc P f.params.toList s.vars apart W args.toList ds gs before)
  (iE:∀(b:Nat) (sp:Nat->Bool) (hd:Bool),DataW.TrodAll enc P W' b sp hd f.resultTypes.toList (v.resultList f.resultTypes.size) (s.fn H (ds ++ gs)).results [])
  (sc:∀sp:Nat->Bool,(∀p∈before,sp p.block=true)->DataW.TrodAll enc P W' 0 sp true f.params.toList args.toList (s.fn H (ds ++ gs)).args pa)
  (aJ:∀sp:Nat->Bool,(∀p∈before,sp p.block=true)->DataW.TrodVars enc P W' sp s.vars (s.fn H (ds ++ gs)).vars pv)
  (wu:before=pa ++ pv) (hb:Below W.heap.size W W')
  (aw:∀(j:Nat) (t:TypeId) (r:Value),f.resultTypes[j]?=some t->(v.resultList f.resultTypes.size)[j]?=some r->Value.okWide P W' .any 0 t r) :
  s.post enc P f apart fresh handsOn again W args v W':=by
 have am:∀p∈before,p.block<W.heap.size:=fun p hp=>hW.lt p hp;have xh:∀p∈before,(fun b=>decide (b<W.heap.size)) p.block=true:=fun p hp=>by simpa using am p hp
 refine⟨ds,gs,before,[],pa,pv,hW,iE _ _ _,sc _ xh,aJ _ xh,World.keptBut_mono (fun p hp=>⟨hp,?_⟩) (hb.frame (·∈before)),fun _=>?_⟩
 ·rw [wu,List.mem_append] at hp;exact Or.inr hp
 ·obtain⟨_,_,_,_,_,hz,hn⟩:=hW;refine⟨aw,_,_,([] ++ pa) ++ pv,⟨[] ++ pa,pv,trodAll_append (sc _ (fun _ _=>rfl)) (iE _ _ _),aJ _ (fun _ _=>rfl),rfl,?_,?_⟩,?_⟩
  ·intro b off hp;have dV:MemPlace.cell b off∈before:=by rw [wu];simpa using hp
   rw [hb.frozen (am _ dV)];exact hz b off dV
  ·intro ha;have:=hn ha;rw [wu] at this;simpa using this
  ·intro p hp _;rw [wu];simpa using hp
end
theorem Tryz.own:ownKnob Tryz.prog.godebug=none:=Ug
theorem Tryz.laidOut:laidOutB Tryz.prog=true:=Ug
theorem Jsw:Tryz.prog.readableRec 25=true:=Ug
theorem Jto:25<Tryz.prog.types.size:=of_decide_eq_true Ug
end Go.Proofs.YtknfcamdfdfoeaaGreatDoor
namespace Go.Proofs.YtknfcamdfdfoeaaGreatDoor
open Go.RowKit Go.Sort
section
variable {P:Program} {w w':World} {base:Nat} {e:TypeId} {size n:Nat} {v:Value} {xs:List Value}
theorem Jpb (h:w.ownsRow base e size v n xs) (hb:∀k,k<w.heap.size->w'.heap[k]?=w.heap[k]?):w'.ownsRow base e size v n xs:=by
 obtain⟨h1,h2⟩:=h;refine⟨h1,?_⟩
 rcases h2 with h2|⟨g,cap,cur,hv,hg,hh,r⟩
 ·exact .inl h2
 ·refine .inr ⟨g,cap,cur,hv,hg,?_,r⟩
  have am:g<w.heap.size:=by
   rcases Nat.lt_or_ge g w.heap.size with h|h
   ·exact h
   ·rw [Array.getElem?_eq_none h] at hh;cases hh
  rw [hb g am];exact hh
theorem Jy (h:w.ownsRow base e size v n xs) (hb:Below w.heap.size w w'):w'.ownsRow base e size v n xs:=Jpb h hb.block
theorem Js (h:w.ownsRow base e size v n xs) {o:Obj} : (w.alloc o).ownsRow base e size v n xs:=h.alloc o
theorem Kp (h:w.ownsRow base e size v n xs):w.drew.ownsRow base e size v n xs:=h
theorem Kc (h:w.ownsRow base e size v n xs) (hn:0<n):∃g cap,v = .slice (some ⟨g,0,none⟩) n cap/\base<=g/\g<w.heap.size/\n<=cap/\cap<=maxLen/\∀j u,xs[j]?=some u->w.cell? ⟨g,j,none⟩=some u:=by
 have am:=h.lt;obtain⟨hx,h'⟩:=h;have h:w.ownsRow base e size v n xs:=⟨hx,h'⟩
 rcases h' with ⟨rfl,h0⟩|⟨g,cap,cur,rfl,hg,hh,h1,h2,_⟩
 ·exact Ua
 ·refine⟨g,cap,rfl,hg,(am g rfl).2,h1,h2,fun j u hj=>?_⟩;have:=h.cells rfl j u hj;have cQ:(⟨g,0,none⟩:Addr).add j=⟨g,j,none⟩:=Lq
  rwa [cQ] at this
theorem Jv (h:w.ownsRow base e size v n xs):∃A cap,v = .slice A n cap/\n<=cap/\cap<=maxLen:=by
 rcases h.2 with ⟨rfl,rfl⟩|⟨g,cap,cur,rfl,hg,hh,h1,h2,_⟩
 ·exact⟨none,0,rfl,Nat.le_refl _,by simp [maxLen]⟩
 ·exact⟨_,cap,rfl,h1,h2⟩
theorem Jn {a b c:World} {B:Nat} (h:Below a.heap.size a b) (k:Below B b c) (hB:a.heap.size<=B):Below a.heap.size a c:=h.trans (k.mono hB)
theorem Kw (w:World) (c:Array Value) (t:TypeId) (j:Nat):(w.alloc (.cells c t)).cell? ⟨w.heap.size,j,none⟩=c[j]?:=cell_of_row _ _ _ _ _ _ (heap_alloc_new w _)
theorem K2 {ops:Array Oper} {rest:List Oper} {o:Oper} {a:Act} {Q:Exit->Act->World->Prop} (oL:o.guard=none) (s x:Operand) (t:TypeId)
  (ho:o.op = .call {callee:= .builtin .append,args:=#[s,x],argTypes:=#[t,t]})
  (base:Nat) (e:TypeId) (z:Value) (size bytes:Nat) (ht:P.underlying t=some (.slice e)) (hi:(P.info? e).map (fun i=>(i.zero,i.size,i.bytes))=some (some z,size,bytes))
  (gH:z.cells.size=size) (cE:0<size) (v:Value) (n:Nat) (xs:List Value) (g c:Nat) (news:List Value)
  (hs:a.eval s=v) (ae:w.ownsRow base e size v n xs)
  (hx:a.eval x = .slice (some ⟨g,0,none⟩) 1 c) (hl:news.length=size) (xy:∀j u,news[j]?=some u->w.cell? ⟨g,j,none⟩=some u) (h1:∀u∈news,u.oneCell'=true)
  (hn:n<100000000) (hb:bytes<=1000) (aK:base<=w.heap.size)
  (h:∀v' w',w'.ownsRow base e size v' (n+1) (xs ++ news)->Below base w w'->wpList P ops Q rest (a.put o.dst v') w'):wpList P ops Q (o :: rest) a w:=by
 obtain⟨i,kF,bD,af,br⟩:=info_parts hi;refine wpList_append_own w oL s x t ho base e i z size bytes ht kF bD af br gH cE v n xs hs ae ⟨g,0,none⟩ 1 c news hx (by simp [hl]) (fun j u hj=>?_) h1 U2 ?_ aK fun v' w' h2 h3 _=>?_
 ·have cQ:(⟨g,0,none⟩:Addr).add j=⟨g,j,none⟩:=Lq;rw [cQ];exact xy j u hj
 ·exact Nat.le_trans (Nat.mul_le_mul (Nat.le_of_lt_succ (by omega:n+1<100000002)) hb) Ua
 ·refine h v' w' h2 ⟨h3.os,h3.tape,h3.output,h3.size,fun k hk=>h3.block k Ua fun dz=>?_⟩;have:=(ae.lt k dz.symm).1;exact Ua
end
def X6 (w:World) (A:Option Addr) (m size:Nat) (news:List Value):Prop:=
 news.length=m * size/\(0<m->∃b off,A=some ⟨b,off,none⟩/\∀j u,news[j]?=some u->w.cell? ⟨b,off+j,none⟩=some u)
section
variable {P:Program} {w:World}
theorem Jju (base:Nat) (t ty e:TypeId) (i:TypeInfo) (size:Nat) (ht:P.underlying t=some (.slice e)) (hi:P.info? e=some i) (v:Value) (n:Nat) (xs:List Value) (ae:w.ownsRow base e size v n xs) (c:Nat) :
  (Builtin.append_ #[t,t] ty #[v,.slice none 0 c]).run P w = .ok v w:=by
 rcases ae.2 with ⟨rfl,rfl⟩|⟨g,cap,cur,rfl,_,_,xz,_⟩
 ·simp [Builtin.append_,run_underlying ht,sizeOf,typeInfo,hi,Builtin.lenOf,Builtin.firstCells]
 ·simp [Builtin.append_,run_underlying ht,sizeOf,typeInfo,hi,Builtin.lenOf,Builtin.firstCells,xz,storeCells]
theorem Jxt (base:Nat) (t ty e:TypeId) (z:Value) (size bytes:Nat) (ht:P.underlying t=some (.slice e)) (hi:(P.info? e).map (fun i=>(i.zero,i.size,i.bytes))=some (some z,size,bytes))
  (gH:z.cells.size=size) (cE:0<size) (v:Value) (n:Nat) (xs:List Value) (ae:w.ownsRow base e size v n xs) (A:Option Addr) (m c:Nat) (news:List Value)
  (hc:X6 w A m size news) (h1:∀u∈news,u.oneCell'=true) (hn:n+m<=100000000) (hb:bytes<=1000) (aK:base<=w.heap.size) :
  ∃v' w',(Builtin.append_ #[t,t] ty #[v,.slice A m c]).run P w = .ok v' w'/\w'.ownsRow base e size v' (n+m) (xs ++ news)/\Below base w w':=by
 obtain⟨i,kF,bD,af,br⟩:=info_parts hi;obtain⟨hl,ah⟩:=hc
 have main:∀ad,A=some ad->(∀j u,news[j]?=some u->w.cell? (ad.add j)=some u)->∃v' w',(Builtin.append_ #[t,t] ty #[v,.slice A m c]).run P w = .ok v' w'/\w'.ownsRow base e size v' (n+m) (xs ++ news)/\Below base w w':=by
  rintro ad rfl hj;obtain⟨v',w',hr,h2,h3,_⟩:=run_append_own w base t ty e i z size bytes ht kF bD af br gH cE v n xs ae ad m c news hl hj h1 U2 (Nat.le_trans (Nat.mul_le_mul hn hb) Ua) aK;refine⟨v',w',hr,h2,⟨h3.os,h3.tape,h3.output,h3.size,fun k hk=>h3.block k Ua fun dz=>?_⟩⟩;have:=(ae.lt k dz.symm).1;exact Ua
 rcases Nat.eq_zero_or_pos m with rfl|hm
 ·have:news = []:=List.eq_nil_of_length_eq_zero (by simpa using hl);subst this
  cases A with
  | none=>exact⟨v,w,Jju base t ty e i size ht kF v n xs ae c,by simpa using ae,Below.refl _ _⟩
  | some ad=>exact main ad rfl (fun j u hj=>by simp at hj)
 ·obtain⟨b,off,rfl,hj⟩:=ah hm;refine main _ rfl fun j u hu=>?_;have cQ:(⟨b,off,none⟩:Addr).add j=⟨b,off+j,none⟩:=Lq;rw [cQ];exact hj j u hu
theorem Jur {o:Oper} {a:Act} {K:Act->World->Prop} {Q:Exit->Act->World->Prop} (s x:Operand) (t:TypeId)
  (ho:o.op = .call {callee:= .builtin .append,args:=#[s,x],argTypes:=#[t,t]})
  (base:Nat) (e:TypeId) (z:Value) (size bytes:Nat) (ht:P.underlying t=some (.slice e)) (hi:(P.info? e).map (fun i=>(i.zero,i.size,i.bytes))=some (some z,size,bytes))
  (gH:z.cells.size=size) (cE:0<size) (v:Value) (n:Nat) (xs:List Value) (A:Option Addr) (m c:Nat) (news:List Value) (hs:a.eval s=v) (ae:w.ownsRow base e size v n xs)
  (hx:a.eval x = .slice A m c) (hc:X6 w A m size news) (h1:∀u∈news,u.oneCell'=true) (hn:n+m<=100000000) (hb:bytes<=1000) (aK:base<=w.heap.size)
  (h:∀v' w',w'.ownsRow base e size v' (n+m) (xs ++ news)->Below base w w'->K (a.put o.dst v') w'):o.wp P a w K Q:=by
 obtain⟨v',w',hr,h2,h3⟩:=Jxt (P:=P) base t o.type e z size bytes ht hi gH cE v n xs ae A m c news hc h1 hn hb aK;unfold Oper.wp execOp;simp only [ho,resolve,invoke,builtin,Sem.run_bind,Sem.run_pure,Result.andThen_ok,List.map_toArray,List.map_cons,List.map_nil,hs,hx,hr];exact h v' w' h2 h3
theorem K6 {ops:Array Oper} {rest:List Oper} {o:Oper} {a:Act} {Q:Exit->Act->World->Prop} (oL:o.guard=none) (s x:Operand) (t:TypeId)
  (ho:o.op = .call {callee:= .builtin .append,args:=#[s,x],argTypes:=#[t,t]})
  (base:Nat) (e:TypeId) (z:Value) (size bytes:Nat) (ht:P.underlying t=some (.slice e)) (hi:(P.info? e).map (fun i=>(i.zero,i.size,i.bytes))=some (some z,size,bytes))
  (gH:z.cells.size=size) (cE:0<size) (v:Value) (n:Nat) (xs:List Value) (A:Option Addr) (m c:Nat) (news:List Value) (hs:a.eval s=v) (ae:w.ownsRow base e size v n xs)
  (hx:a.eval x = .slice A m c) (hc:X6 w A m size news) (h1:∀u∈news,u.oneCell'=true) (hn:n+m<=100000000) (hb:bytes<=1000) (aK:base<=w.heap.size)
  (h:∀v' w',w'.ownsRow base e size v' (n+m) (xs ++ news)->Below base w w'->wpList P ops Q rest (a.put o.dst v') w'):wpList P ops Q (o :: rest) a w:=
 wpList_plain oL fun _ hK=>Jur s x t ho base e z size bytes ht hi gH cE v n xs A m c news hs ae hx hc h1 hn hb aK fun v' w' h2 h3=>hK _ _ (h v' w' h2 h3)
theorem Jg1 {ops:Array Oper} {o:Oper} {a:Act} {K:Act->World->Prop} {Q:Exit->Act->World->Prop} {E:Prop} (oL:o.guard=none) (s x:Operand) (t:TypeId)
  (ho:o.op = .call {callee:= .builtin .append,args:=#[s,x],argTypes:=#[t,t]})
  (base:Nat) (e:TypeId) (z:Value) (size bytes:Nat) (ht:P.underlying t=some (.slice e)) (hi:(P.info? e).map (fun i=>(i.zero,i.size,i.bytes))=some (some z,size,bytes))
  (gH:z.cells.size=size) (cE:0<size) (v:Value) (n:Nat) (xs:List Value) (A:Option Addr) (m c:Nat) (news:List Value) (hs:a.eval s=v) (ae:w.ownsRow base e size v n xs)
  (hx:a.eval x = .slice A m c) (hc:X6 w A m size news) (h1:∀u∈news,u.oneCell'=true) (hn:n+m<=100000000) (hb:bytes<=1000) (aK:base<=w.heap.size)
  (h:∀v' w',w'.ownsRow base e size v' (n+m) (xs ++ news)->Below base w w'->K (a.put o.dst v') w'):if Region.wanted o (yielded ops a.tmps)=true then Oper.wp P o a w K Q else E:=by
 have hw:Region.wanted o (yielded ops a.tmps)=true:=by simp [Region.wanted,oL]
 rw [if_pos hw];exact Jur s x t ho base e z size bytes ht hi gH cE v n xs A m c news hs ae hx hc h1 hn hb aK h
end
def vaC (v:Va):List Value:=[.string v.name,.int .i64 v.type,.int .i64 v.ck,.string v.cn]
def Xe (l:List Va):List Value:=l.flatMap vaC
theorem Jwi (l:List Va):(Xe l).length=l.length * 4:=by
 induction l with
 | nil=>rfl
 | cons v l ih=>rw [Xe,List.flatMap_cons,List.length_append,<-Xe,ih];simp [vaC];omega
theorem Jor:∀(l:List Va) (j:Nat) (u:Value),(Xe l)[j]?=some u->∃v,l[j / 4]?=some v/\(vaC v)[j % 4]?=some u
 | [],j,u,h=>by simp [Xe] at h
 | v :: l,j,u,h=>by
  rw [Xe,List.flatMap_cons,<-Xe] at h
  rcases Nat.lt_or_ge j 4 with hj|hj
  ·rw [List.getElem?_append_left (by simpa [vaC] using hj)] at h;refine⟨v,?_,?_⟩
   ·rw [Nat.div_eq_of_lt hj];rfl
   ·rw [Nat.mod_eq_of_lt hj];exact h
  ·rw [List.getElem?_append_right (by simpa [vaC] using hj)] at h;have ai:(vaC v).length=4:=rfl;rw [ai] at h;obtain⟨x,h1,h2⟩:=Jor l (j-4) u h;refine⟨x,?_,?_⟩
   ·rw [show j / 4=(j-4) / 4+1 from by omega];simpa using h1
   ·rw [show j % 4=(j-4) % 4 from by omega];exact h2
theorem Jrh (l:List Va) (k:Nat) (v:Va) (h:l[k]?=some v) (i:Nat) (u:Value) (hu:(vaC v)[i]?=some u):(Xe l)[k * 4+i]?=some u:=by
 induction l generalizing k with
 | nil=>simp at h
 | cons x l ih=>
  rw [Xe,List.flatMap_cons,<-Xe]
  have hi:i<4:=by
   have:=(List.getElem?_eq_some_iff.1 hu).1;simpa [vaC] using this
  cases k with
  | zero=>
   simp at h;subst h;rw [List.getElem?_append_left (by simp [vaC];omega)];simpa using hu
  | succ k=>
   rw [List.getElem?_append_right (by simp [vaC];omega)];have ai:(vaC x).length=4:=rfl;rw [ai,show(k+1) * 4+i-4=k * 4+i from by omega];exact ih k Ve
theorem Jbg (l:List Va):∀u∈Xe l,u.oneCell'=true:=by
 intro u hu;obtain⟨v,_,hv⟩:=List.mem_flatMap.1 hu;simp [vaC] at hv
 rcases hv with rfl|rfl|rfl|rfl <;> rfl
theorem Ju.cells {w:World} {l:List Va} {A:Option Addr} {cap:Nat} (h:Ju w l A cap):X6 w A l.length 4 (Xe l):=by
 refine⟨Jwi l,fun hl=>?_⟩;obtain⟨b,off,hA,hr⟩:=h.2.2 hl;refine⟨b,off,hA,fun j u hj=>?_⟩;obtain⟨v,h1,h2⟩:=Jor l j u hj;obtain⟨d0,d1,d2,d3⟩:=hr _ _ h1;have fb:off+j=off+j / 4 * 4+j % 4:=Ua;rw [fb];have hm:j % 4<4:=Nat.mod_lt _ Ua;generalize j % 4=i at h2 hm
 match i,hm,h2 with
 | 0,_,h2=>simp [vaC] at h2;subst h2;exact d0
 | 1,_,h2=>simp [vaC] at h2;subst h2;exact d1
 | 2,_,h2=>simp [vaC] at h2;subst h2;exact d2
 | 3,_,h2=>simp [vaC] at h2;subst h2;exact d3
theorem Ju.of_own {w:World} {base:Nat} {e:TypeId} {l:List Va} {A:Option Addr} {cap:Nat} (h:w.ownsRow base e 4 (.slice A l.length cap) l.length (Xe l)):Ju w l A cap:=by
 rcases Nat.eq_zero_or_pos l.length with h0|h0
 ·obtain⟨A',c',hv,h1,h2⟩:=Jv h;injection hv with e1 e2 e3;subst e3;exact⟨h1,h2,fun hl=>absurd hl Ua⟩
 ·obtain⟨g,c',hv,_,_,h1,h2,hc⟩:=Kc h h0;injection hv with e1 e2 e3;subst e1 e3;refine⟨h1,h2,fun _=>⟨g,0,rfl,fun k v hk=>?_⟩⟩;have ha:=fun i u hu=>hc _ _ (Jrh l k v hk i u hu);rw [Nat.zero_add];exact⟨ha 0 _ rfl,ha 1 _ rfl,ha 2 _ rfl,ha 3 _ rfl⟩
theorem Kj (w:World):(zeroValue 3).run Tryz.prog w = .ok (.int .i64 0) w:=Ug
end Go.Proofs.YtknfcamdfdfoeaaGreatDoor
