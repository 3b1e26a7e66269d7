/- Lemmas. -/
import Derived.Test.YtdgjplldlfeolaaGreatDoorMac
import Derived.Test.YtdgjplldlfeolaaGreatDoorY24
import Derived.Test.YtdgjplldlfeolaaGreatDoorY43
import Derived.Test.YtdgjplldlfeolaaGreatDoorY30
import Derived.Deep.CutRange
import Derived.Test.YtdgjplldlfeolaaGreatDoorY11
set_option linter.unusedVariables false
set_option linter.unusedSimpArgs false
set_option maxRecDepth 100000
set_option maxHeartbeats 64000000
namespace Go.Proofs.YtdgjplldlfeolaaGreatDoor
open Go.RowKit Go.Sort
def Khq (w:World) (b:Nat):Prop:=∀o k,w.cell? ⟨b,o,none⟩≠some (Value.int .i32 k)
theorem Khq.later {w w':World} {b:Nat} (h:Khq w b) (hb:Below w.heap.size w w') (am:b<w.heap.size):Khq w' b:=fun o k e=>h o k ((Jg hb b o am).symm.trans e)
theorem Khq.new (w:World) (l:List Value) (t:TypeId) (h:∀u∈l,∀k,u≠Value.int .i32 k):Khq (w.alloc (.cells l.toArray t)) w.heap.size:=fun o k e=>by
 rw [Kw] at e;have:l[o]?=some (Value.int .i32 k):=by simpa using e
 exact h _ (Ni this) k rfl
theorem Khd {w w':World} {A:Option Addr} {n size:Nat} {xs:List Value} (h:X6 w A n size xs) (hx:0<n->∃(j:Nat) (k:Int),xs[j]?=some (Value.int .i32 k)) (hz:∀b o k,w.cell? ⟨b,o,none⟩=some (Value.int .i32 k)->w'.heap[b]?=w.heap[b]?):X6 w' A n size xs:=
 ⟨h.1,fun hn=>by
  obtain⟨b,off,hA,hc⟩:=h.2 hn;obtain⟨j,k,hj⟩:=hx hn;have hb:=hz b _ k (hc j _ hj);exact⟨b,off,hA,fun i u hi=>Jr hb (hc i u hi)⟩⟩
theorem Jd5.aside {w w':World} {m:Im} {a:ImA} (h:Jd5 w m a) (hz:∀b o k,w.cell? ⟨b,o,none⟩=some (Value.int .i32 k)->w'.heap[b]?=w.heap[b]?):Jd5 w' m a:=by
 refine⟨⟨h.first.1,h.first.2.1,Khd h.first.2.2 (fun hn=>?_) hz⟩,⟨h.step.1,h.step.2.1,Khd h.step.2.2 (fun hn=>?_) hz⟩,⟨h.move.1,h.move.2.1,Khd h.move.2.2 (fun hn=>?_) hz⟩⟩
 ·cases hf:m.first with
  | nil=>rw [hf] at hn;simp at hn
  | cons x l=>exact⟨0,x,by simp [nuI]⟩
 ·cases hf:m.step with
  | nil=>rw [hf] at hn;simp at hn
  | cons x l=>exact⟨1,x.2,by simp [cdC]⟩
 ·cases hf:m.move with
  | nil=>rw [hf] at hn;simp at hn
  | cons x l=>exact⟨1,x.2,by simp [cdC]⟩
theorem Klf (w:World):Jd5 w Im.zero ⟨none,0,none,0,none,0⟩:=
 ⟨⟨Ns _,Np,by simp [nuI,Im.zero],fun h=>absurd h (by simp [Im.zero])⟩,⟨Ns _,Np,by simp [cdC,Im.zero],fun h=>absurd h (by simp [Im.zero])⟩,⟨Ns _,Np,by simp [cdC,Im.zero],fun h=>absurd h (by simp [Im.zero])⟩⟩
def srV (nm:ByteArray) (B1:Option Addr) (l1 d1:Nat) (B2:Option Addr) (l2 d2:Nat) (B3:Option Addr) (l3 d3:Nat) (B4:Option Addr) (l4 d4:Nat) (m:Im) (a:ImA):Value:=
 .agg #[.string nm,.slice B1 l1 d1,.slice B2 l2 d2,.slice B3 l3 d3,.slice B4 l4 d4,.int .u32 m.ver,.int .u32 m.fro,.int .i64 m.eld,.int .i64 m.fr.s,.int .i64 m.fr.o,.int .i64 m.fr.n,.int .i64 m.fr.i,.int .i64 m.fr.u,.slice a.A1 m.first.length a.c1,.slice a.A2 m.step.length a.c2,.slice a.A3 m.move.length a.c3,.int .i64 m.sf,.int .i64 m.mf]
def Kjn (W:World) (x:Im×(Int×Int×Int)) (r:Ending) (W':World):Prop:=
 (∃nm B1 l1 d1 B2 l2 d2 B3 l3 d3 B4 l4 d4 ia,r = .returned (.tuple #[srV nm B1 l1 d1 B2 l2 d2 B3 l3 d3 B4 l4 d4 x.1 ia,fV x.2])/\Jd5 W' x.1 ia)/\Below W.heap.size W W'
theorem Kko (s:ByteArray) (v:Int) (W:World) (hs:s.size<=maxLen) (hf:(Kdm s).2.1≠0) :
  Calls Tryz.prog 15 #[.string s,.int .u32 v] W (Kjn W (Im.zero,(1,(Kdm s).2.2,(Kdm s).2.1))):=by
 have hp:=fun w=>Khm s w hs;unfold Khe at hp;generalize Kdm s=P at hp hf ⊢;obtain⟨p,e,at0⟩:=P;dsimp only at hp hf ⊢;unfold prV at hp;have he:(e != 0)=true:=S5;clear hf;have hsid:∀(W:World) (b o:Nat) (v:Value),W.cell? ⟨b,o,none⟩=some v->W.setCell ⟨b,o,none⟩ v=W:=fun _ _ _ _ h=>Jry h
 go_enter Tryz.func15,Tryz.ntmps15
 go_wp2_with (go_at_call 7;go_loud (refine(hp _).mono ?_;rintro r w1 ⟨⟨⟨A1,c1,A2,c2,A3,c3,A4,c4⟩,rfl,aY⟩,ac⟩;have ak:=Jg ac;have db:=Jf ac;have af:=ac.size;(try simp at af);have bV:=lt0 W w1;have gq:=ltA W 1 w1;have z0:=Nb w1 W.heap.size 0 (.string ⟨#[]⟩) ((ak _ _ Ud).trans Uc);have z1:=Nb w1 W.heap.size 1 (.slice none 0 0) ((ak _ _ Ud).trans Uc);have z2:=Nb w1 W.heap.size 2 (.slice none 0 0) ((ak _ _ Ud).trans Uc);have z3:=Nb w1 W.heap.size 3 (.slice none 0 0) ((ak _ _ Ud).trans Uc);have z4:=Nb w1 W.heap.size 4 (.slice none 0 0) ((ak _ _ Ud).trans Uc);have z5:=Nb w1 W.heap.size 5 (.int .u32 0) ((ak _ _ Ud).trans Uc);have z6:=Nb w1 W.heap.size 6 (.int .u32 0) ((ak _ _ Ud).trans Uc);have z7:=Na w1 W.heap.size 7 0 ((ak _ _ Ud).trans Uc);have z8:=Na w1 W.heap.size 8 0 ((ak _ _ Ud).trans Uc);have z9:=Na w1 W.heap.size 9 0 ((ak _ _ Ud).trans Uc);have z10:=Na w1 W.heap.size 10 0 ((ak _ _ Ud).trans Uc);have z11:=Na w1 W.heap.size 11 0 ((ak _ _ Ud).trans Uc);have z12:=Na w1 W.heap.size 12 0 ((ak _ _ Ud).trans Uc);have z13:=Nb w1 W.heap.size 13 (.slice none 0 0) ((ak _ _ Ud).trans Uc);have z14:=Nb w1 W.heap.size 14 (.slice none 0 0) ((ak _ _ Ud).trans Uc);have z15:=Nb w1 W.heap.size 15 (.slice none 0 0) ((ak _ _ Ud).trans Uc);have z16:=Na w1 W.heap.size 16 0 ((ak _ _ Ud).trans Uc);have z17:=Na w1 W.heap.size 17 0 ((ak _ _ Ud).trans Uc);have y0:=Na w1 (W.heap.size+1) 0 0 ((ak _ _ Ud).trans Uc);have y1:=Na w1 (W.heap.size+1) 1 0 ((ak _ _ Ud).trans Uc);have y2:=Na w1 (W.heap.size+1) 2 0 ((ak _ _ Ud).trans Uc);have zf:∀o,w1.frozen? ⟨W.heap.size,o,none⟩=false:=fun o=>(db _ _ Ud).trans Uc;have yf:∀o,w1.frozen? ⟨W.heap.size+1,o,none⟩=false:=fun o=>(db _ _ Ud).trans Uc))
 refine Zc fun F hF=>?_;have aS:W.heap.size≠W.heap.size+1:=Ua;have hq:=Jp5 (.int .i64 1) (.int .i64 at0) (.int .i64 e) y0 y1 y2
 have hz:∀(j:Nat) (u:Value),([.string ⟨#[]⟩,.slice none 0 0,.slice none 0 0,.slice none 0 0,.slice none 0 0,.int .u32 0,.int .u32 0,.int .i64 0,.int .i64 0,.int .i64 0,.int .i64 0,.int .i64 0,.int .i64 0,.slice none 0 0,.slice none 0 0,.slice none 0 0,.int .i64 0,.int .i64 0]:List Value)[j]?=some u->F.cell? ⟨W.heap.size,j,none⟩=some u:=fun j u hj=>by
  have h1:w1.cell? ⟨W.heap.size,j,none⟩=some u:=Ja ac (J4 ((Kw W _ _ j).trans Ma));rw [hF];exact J4 ((Qy _ _ _ aS).trans h1)
 have hy:∀(j:Nat) (u:Value),([.int .i64 1,.int .i64 at0,.int .i64 e]:List Value)[j]?=some u->F.cell? ⟨W.heap.size+1,j,none⟩=some u:=fun j u hj=>by
  rw [hF]
  match j,hj with
  | 0,hj=>simp at hj;subst hj;exact J4 hq.1
  | 1,hj=>simp at hj;subst hj;exact J4 hq.2.1
  | 2,hj=>simp at hj;subst hj;exact J4 hq.2.2
 have hbF:Below W.heap.size W F:=by
  rw [hF];exact Jc (Qq _ _ _ (Jd (Jc (Jc (Nt) _) _) ac) (Nat.le_succ _)) _
 clear hF hq;exact Nv (v:= .tuple #[srV ⟨#[]⟩ none 0 0 none 0 0 none 0 0 none 0 0 Im.zero ⟨none,0,none,0,none,0⟩,fV (1,at0,e)]) (Kol rfl [.string ⟨#[]⟩,.slice none 0 0,.slice none 0 0,.slice none 0 0,.slice none 0 0,.int .u32 0,.int .u32 0,.int .i64 0,.int .i64 0,.int .i64 0,.int .i64 0,.int .i64 0,.int .i64 0,.slice none 0 0,.slice none 0 0,.slice none 0 0,.int .i64 0,.int .i64 0] [.int .i64 1,.int .i64 at0,.int .i64 e] rfl rfl Ue Ue Ue Ue hz hy) rfl ⟨⟨_,_,_,_,_,_,_,_,_,_,_,_,_,⟨none,0,none,0,none,0⟩,rfl,Klf _⟩,hbF⟩
mutual
theorem Jt.past {w w':World} (hz:∀b o k,w.cell? ⟨b,o,none⟩=some (Value.int .i32 k)->w'.heap[b]?=w.heap[b]?):∀(e:Ex) {A:Option Addr} {cap:Nat},Jt w e A cap->Jt w' e A cap
 | .mk _ _ _ l,A,cap,h=>by
  simp only [Jt] at h ⊢;refine⟨h.1,h.2.1,fun hl=>?_⟩;obtain⟨b,off,hA,hr⟩:=h.2.2 hl;exact⟨b,off,hA,Xv.past hz l hr⟩
theorem Xv.past {w w':World} (hz:∀b o k,w.cell? ⟨b,o,none⟩=some (Value.int .i32 k)->w'.heap[b]?=w.heap[b]?) {b:Nat} : ∀(l:List Ex) {off:Nat},Xv w b l off->Xv w' b l off
 | [],off,_=>by simp [Xv]
 | e :: l,off,h=>by
  simp only [Xv] at h ⊢;obtain⟨⟨A,cap,h0,h1,h2,h3,h4⟩,hr⟩:=h;have hb:=hz b _ _ h1;exact⟨⟨A,cap,Jr hb h0,Jr hb h1,Jr hb h2,Jr hb h3,Jt.past hz e h4⟩,Xv.past hz l hr⟩
end
theorem Ju.past {w w':World} {l:List Va} {A:Option Addr} {cap:Nat} (h:Ju w l A cap) (hz:∀b o s k,w.cell? ⟨b,o,none⟩=some (Value.string s)->w.cell? ⟨b,o+1,none⟩=some (Value.int .i64 k)->w'.heap[b]?=w.heap[b]?):Ju w' l A cap:=
 ⟨h.1,h.2.1,fun hl=>by
  obtain⟨b,off,hA,hr⟩:=h.2.2 hl;refine⟨b,off,hA,fun k v hk=>?_⟩;have hv:=hr k v hk;have hb:=hz b _ _ _ hv.c0 hv.c1;exact⟨Jr hb hv.c0,Jr hb hv.c1,Jr hb hv.c2,Jr hb hv.c3⟩⟩
theorem Jap.past {w w':World} {l:List Qe} {A:Option Addr} {cap:Nat} (h:Jap w l A cap) (hz:∀b o k,w.cell? ⟨b,o,none⟩=some (Value.int .i32 k)->w'.heap[b]?=w.heap[b]?):Jap w' l A cap:=
 ⟨h.1,h.2.1,fun hl=>by
  obtain⟨b,off,hA,hr⟩:=h.2.2 hl;refine⟨b,off,hA,fun k q hk=>?_⟩;obtain⟨A1,c1,A2,c2,hv⟩:=hr k q hk;have hb:=hz b _ _ hv.g3;exact⟨A1,c1,A2,c2,Jr hb hv.g0,Jr hb hv.g1,Jr hb hv.g2,Jr hb hv.g3,Jr hb hv.g4,Jr hb hv.g5,Jr hb hv.g6,Jr hb hv.g7,Jr hb hv.g8,Jr hb hv.g9,Jt.past hz _ hv.s1,Jt.past hz _ hv.s2⟩⟩
theorem Kr.past {w w':World} {p:Pr} {a:PrA} (h:Kr w p a) (h1:∀b o k,w.cell? ⟨b,o,none⟩=some (Value.int .i32 k)->w'.heap[b]?=w.heap[b]?) (h2:∀b o s k,w.cell? ⟨b,o,none⟩=some (Value.string s)->w.cell? ⟨b,o+1,none⟩=some (Value.int .i64 k)->w'.heap[b]?=w.heap[b]?):Kr w' p a:=
 ⟨h.ins.past h2,h.outs.past h2,h.locals.past h2,h.eqs.past h1⟩
def Kpf (w:World) (b:Nat):Prop:=∀o s k,w.cell? ⟨b,o,none⟩=some (Value.string s)->w.cell? ⟨b,o+1,none⟩≠some (Value.int .i64 k)
theorem Kpf.later {w w':World} {b:Nat} (h:Kpf w b) (hb:Below w.heap.size w w') (am:b<w.heap.size):Kpf w' b:=fun o s k e e'=>h o s k ((Jg hb b o am).symm.trans e) ((Jg hb b (o+1) am).symm.trans e')
theorem Kpf.new (w:World) (l:List Value) (t:TypeId) (h:∀o s k,l[o]?=some (Value.string s)->l[o+1]?≠some (Value.int .i64 k)):Kpf (w.alloc (.cells l.toArray t)) w.heap.size:=fun o s k e e'=>by
 rw [Kw] at e e';exact h o s k (by simpa using e) (by simpa using e')
theorem Ksw (W V:World) (l1 l2:List Value) (t1 t2:TypeId) (h1:∀o s k,l1[o]?=some (Value.string s)->l1[o+1]?≠some (Value.int .i64 k)) (h2:∀o s k,l2[o]?=some (Value.string s)->l2[o+1]?≠some (Value.int .i64 k))
  (hb:Below ((W.alloc (.cells l1.toArray t1)).alloc (.cells l2.toArray t2)).heap.size ((W.alloc (.cells l1.toArray t1)).alloc (.cells l2.toArray t2)) V):Kpf V W.heap.size/\Kpf V (W.heap.size+1):=by
 have n1:=(Kpf.new W l1 t1 h1).later (Jc (Nt) (.cells l2.toArray t2)) Uh;have n2:=Kpf.new (W.alloc (.cells l1.toArray t1)) l2 t2 h2;rw [show(W.alloc (.cells l1.toArray t1)).heap.size=W.heap.size+1 by simp] at n2;exact⟨n1.later hb Ud,n2.later hb Uh⟩
theorem Ksp:∀o s k,([.string ⟨#[]⟩,.slice none 0 0,.slice none 0 0,.slice none 0 0,.slice none 0 0,.int .u32 0,.int .u32 0,.int .i64 0,.int .i64 0,.int .i64 0,.int .i64 0,.int .i64 0,.int .i64 0,.slice none 0 0,.slice none 0 0,.slice none 0 0,.int .i64 0,.int .i64 0]:List Value)[o]?=some (Value.string s)->([.string ⟨#[]⟩,.slice none 0 0,.slice none 0 0,.slice none 0 0,.slice none 0 0,.int .u32 0,.int .u32 0,.int .i64 0,.int .i64 0,.int .i64 0,.int .i64 0,.int .i64 0,.int .i64 0,.slice none 0 0,.slice none 0 0,.slice none 0 0,.int .i64 0,.int .i64 0]:List Value)[o+1]?≠some (Value.int .i64 k):=by
 intro o s k h
 match o,h with
 | 0,_=>simp
 | o+1,h=>
  have:=Ni h;rw [List.getElem?_cons_succ] at h;have:=Ni h;simp at this
theorem Ks7:∀o s k,([.int .i64 0,.int .i64 0,.int .i64 0]:List Value)[o]?=some (Value.string s)->([.int .i64 0,.int .i64 0,.int .i64 0]:List Value)[o+1]?≠some (Value.int .i64 k):=by
 intro o s k h;have:=Ni h;simp at this
end Go.Proofs.YtdgjplldlfeolaaGreatDoor
