/- Lemmas. -/
import Derived.Test.YtdgjplldlfeolaaGreatDoorZ00
import Derived.Laws.Cells
import Derived.Laws.ResultCell
import Derived.Test.YtdgjplldlfeolaaGreatDoorZ41
import Derived.Test.YtdgjplldlfeolaaGreatDoorZ47
import Derived.Test.YtdgjplldlfeolaaGreatDoorZ40
import Derived.Deep.CutRange
set_option linter.unusedVariables false
set_option linter.unusedSimpArgs false
set_option maxRecDepth 100000
set_option maxHeartbeats 64000000
namespace Go.Proofs.YtdgjplldlfeolaaGreatDoor
open Go.RowKit Go.Sort
theorem Kon {P:Program} {w:World} {t:TypeId} {b:Nat} (l:List Value) (ha:(isAgg t).run P w = .ok true w) (hs:(sizeOf t).run P w = .ok l.length w)
  (hc:∀(j:Nat) (v:Value),l[j]?=some v->w.cell? ⟨b,j,none⟩=some v):(loadVar t ⟨b,0,none⟩).run P w = .ok (.agg l.toArray) w:=by
 have hl:=run_loadCells (P:=P) w ⟨b,0,none⟩ l.length (fun j=>(l[j]?).getD undef) (fun j hj=>by
  have cQ:(⟨b,0,none⟩:Addr).add j=⟨b,j,none⟩:=by unfold Addr.add;split <;> simp_all
  rw [cQ];have hg:l[j]?=some l[j]:=List.getElem?_eq_getElem hj;rw [hg];exact hc j _ hg)
 have he:((List.range l.length).map fun j=>(l[j]?).getD undef)=l:=by
  apply List.ext_getElem?;intro i
  by_cases hi:i<l.length
  ·simp [hi]
  ·simp [List.getElem?_eq_none (Nat.le_of_not_lt hi),hi]
 rw [he] at hl;unfold loadVar;simp [Sem.run_bind,ha,hs,hl,Result.andThen]
theorem Kol {fn:Func} {p q:Tmp} {t u:TypeId} {tmps:Array Value} {P:Program} {w:World} {b c:Nat} (h:fn.results = #[.cell p t,.cell q u]) (l m:List Value)
  (hp:tmps.getD p undef = .pointer (some ⟨b,0,none⟩)) (hq:tmps.getD q undef = .pointer (some ⟨c,0,none⟩)) (ha:(isAgg t).run P w = .ok true w) (hs:(sizeOf t).run P w = .ok l.length w) (ha2:(isAgg u).run P w = .ok true w) (bd:(sizeOf u).run P w = .ok m.length w)
  (hc:∀(j:Nat) (v:Value),l[j]?=some v->w.cell? ⟨b,j,none⟩=some v) (dm:∀(j:Nat) (v:Value),m[j]?=some v->w.cell? ⟨c,j,none⟩=some v) :
  (results fn tmps).run P w = .ok (.tuple #[.agg l.toArray,.agg m.toArray]) w:=by
 have h1:=Kon l ha hs hc;have h2:=Kon m ha2 bd dm;have hp':tmps[p]?.getD undef = .pointer (some ⟨b,0,none⟩):=by simpa using hp
 have tt:tmps[q]?.getD undef = .pointer (some ⟨c,0,none⟩):=by simpa using hq
 simp only [results,h];simp [Sem.run_bind,Result.andThen,hp',tt,asAddr,h1,h2]
def Koi (W:World) (z:Nat):Nat->List Value->World
 | _,[]=>W
 | o,v :: l=>Koi (W.setCell ⟨z,o,none⟩ v) z (o+1) l
theorem Koj {z b:Nat} (h:b≠z):∀(l:List Value) (o:Nat) (W:World),(Koi W z o l).heap[b]?=W.heap[b]?
 | [],_,_=>rfl
 | v :: l,o,W=>by rw [Koi,Koj h l,heap_setCell_other _ _ _ _ h]
theorem Koo {z j:Nat} : ∀(l:List Value) (o:Nat) (W:World),j<o->(Koi W z o l).cell? ⟨z,j,none⟩=W.cell? ⟨z,j,none⟩
 | [],_,_,_=>rfl
 | v :: l,o,W,h=>by
  rw [Koi,Koo l (o+1) _ (by omega)];exact World.cell?_setCell_other _ _ _ _ (by intro he;injection he with e1 e2;omega)
theorem Kom {z:Nat} : ∀(l:List Value) (o:Nat) (W:World),(∀j,j<l.length->∃u,W.cell? ⟨z,o+j,none⟩=some u)->∀(j:Nat) (v:Value),l[j]?=some v->(Koi W z o l).cell? ⟨z,o+j,none⟩=some v
 | [],_,_,_,j,v,h=>by simp at h
 | x :: l,o,W,hc,0,v,h=>by
  simp at h;subst h;obtain⟨u,hu⟩:=hc 0 (by simp);rw [Koi,Koo l (o+1) _ (by omega)];exact World.cell?_setCell_same _ _ _ hu
 | x :: l,o,W,hc,j+1,v,h=>by
  rw [Koi,show o+(j+1)=o+1+j from by omega];refine Kom l (o+1) _ (fun i hi=>?_) j v (by simpa using h);obtain⟨u,hu⟩:=hc (i+1) (by simp;omega);refine⟨u,(World.cell?_setCell_other _ _ _ _ (by intro he;injection he with e1 e2;omega)).trans ?_⟩;rw [show o+1+i=o+(i+1) from by omega];exact hu
theorem Kok {m z:Nat} {w:World} (hz:m<=z):∀(l:List Value) (o:Nat) (W:World),Below m w W->Below m w (Koi W z o l)
 | [],_,_,h=>h
 | v :: l,o,W,h=>by rw [Koi];exact Kok hz l (o+1) _ (Below.setCell h hz _)
def Khq (w:World) (b:Nat):Prop:=∀o k,w.cell? ⟨b,o,none⟩≠some (Value.int .i32 k)
theorem Khq.later {w w':World} {b:Nat} (h:Khq w b) (hb:Below w.heap.size w w') (am:b<w.heap.size):Khq w' b:=fun o k e=>h o k ((Jg hb b o am).symm.trans e)
theorem Khq.new (w:World) (l:List Value) (t:TypeId) (h:∀u∈l,∀k,u≠Value.int .i32 k):Khq (w.alloc (.cells l.toArray t)) w.heap.size:=fun o k e=>by
 rw [Kw] at e;have:l[o]?=some (Value.int .i32 k):=by simpa using e
 exact h _ (List.mem_of_getElem? this) k rfl
theorem Khd {w w':World} {A:Option Addr} {n size:Nat} {xs:List Value} (h:X6 w A n size xs) (hx:0<n->∃(j:Nat) (k:Int),xs[j]?=some (Value.int .i32 k)) (hz:∀b o k,w.cell? ⟨b,o,none⟩=some (Value.int .i32 k)->w'.heap[b]?=w.heap[b]?):X6 w' A n size xs:=
 ⟨h.1,fun hn=>by
  obtain⟨b,off,hA,hc⟩:=h.2 hn;obtain⟨j,k,hj⟩:=hx hn;have hb:=hz b _ k (hc j _ hj);exact⟨b,off,hA,fun i u hi=>Jr hb (hc i u hi)⟩⟩
theorem Jd5.aside {w w':World} {m:Im} {a:ImA} (h:Jd5 w m a) (hz:∀b o k,w.cell? ⟨b,o,none⟩=some (Value.int .i32 k)->w'.heap[b]?=w.heap[b]?):Jd5 w' m a:=by
 refine⟨⟨h.first.1,h.first.2.1,Khd h.first.2.2 (fun hn=>?_) hz⟩,⟨h.step.1,h.step.2.1,Khd h.step.2.2 (fun hn=>?_) hz⟩,⟨h.move.1,h.move.2.1,Khd h.move.2.2 (fun hn=>?_) hz⟩⟩
 ·cases hf:m.first with
  | nil=>rw [hf] at hn;simp at hn
  | cons x l=>exact⟨0,x,by simp [nuI]⟩
 ·cases hf:m.step with
  | nil=>rw [hf] at hn;simp at hn
  | cons x l=>exact⟨1,x.2,by simp [cdC]⟩
 ·cases hf:m.move with
  | nil=>rw [hf] at hn;simp at hn
  | cons x l=>exact⟨1,x.2,by simp [cdC]⟩
theorem Klf (w:World):Jd5 w Im.zero ⟨none,0,none,0,none,0⟩:=
 ⟨⟨Nat.le_refl _,Nat.zero_le _,by simp [nuI,Im.zero],fun h=>absurd h (by simp [Im.zero])⟩,⟨Nat.le_refl _,Nat.zero_le _,by simp [cdC,Im.zero],fun h=>absurd h (by simp [Im.zero])⟩,⟨Nat.le_refl _,Nat.zero_le _,by simp [cdC,Im.zero],fun h=>absurd h (by simp [Im.zero])⟩⟩
def srV (nm:ByteArray) (B1:Option Addr) (l1 d1:Nat) (B2:Option Addr) (l2 d2:Nat) (B3:Option Addr) (l3 d3:Nat) (B4:Option Addr) (l4 d4:Nat) (m:Im) (a:ImA):Value:=
 .agg #[.string nm,.slice B1 l1 d1,.slice B2 l2 d2,.slice B3 l3 d3,.slice B4 l4 d4,.int .u32 m.ver,.int .u32 m.fro,.int .i64 m.eld,.int .i64 m.fr.s,.int .i64 m.fr.o,.int .i64 m.fr.n,.int .i64 m.fr.i,.int .i64 m.fr.u,.slice a.A1 m.first.length a.c1,.slice a.A2 m.step.length a.c2,.slice a.A3 m.move.length a.c3,.int .i64 m.sf,.int .i64 m.mf]
def Kjn (W:World) (x:Im×(Int×Int×Int)) (r:Ending) (W':World):Prop:=
 (∃nm B1 l1 d1 B2 l2 d2 B3 l3 d3 B4 l4 d4 ia,r = .returned (.tuple #[srV nm B1 l1 d1 B2 l2 d2 B3 l3 d3 B4 l4 d4 x.1 ia,fV x.2])/\Jd5 W' x.1 ia)/\Below W.heap.size W W'
theorem Kko (s:ByteArray) (v:Int) (W:World) (hs:s.size<=maxLen) (hf:(Kdm s).2.1≠0) :
  Calls Tryz.prog 15 #[.string s,.int .u32 v] W (Kjn W (Im.zero,(1,(Kdm s).2.2,(Kdm s).2.1))):=by
 have hp:=fun w=>Khm s w hs;unfold Khe at hp;generalize Kdm s=P at hp hf ⊢;obtain⟨p,e,at0⟩:=P;dsimp only at hp hf ⊢;unfold prV at hp;have he:(e != 0)=true:=by simpa using hf
 clear hf;have hsid:∀(W:World) (b o:Nat) (v:Value),W.cell? ⟨b,o,none⟩=some v->W.setCell ⟨b,o,none⟩ v=W:=fun _ _ _ _ h=>Jry h
 go_enter Tryz.func15,Tryz.ntmps15
 go_wp2_with (go_at_call 7;go_loud (refine(hp _).mono ?_;rintro r w1 ⟨⟨⟨A1,c1,A2,c2,A3,c3,A4,c4⟩,rfl,aY⟩,ac⟩;have ak:=Jg ac;have db:=Jf ac;have af:=ac.size;(try simp at af);have bV:W.heap.size<w1.heap.size:=(by omega);have gq:W.heap.size+1<w1.heap.size:=(by omega);have z0:w1.cell? ⟨W.heap.size,0,none⟩=some (.string ⟨#[]⟩):=(ak _ _ (by simp <;> omega)).trans (by go_simp);have z1:w1.cell? ⟨W.heap.size,1,none⟩=some (.slice none 0 0):=(ak _ _ (by simp <;> omega)).trans (by go_simp);have z2:w1.cell? ⟨W.heap.size,2,none⟩=some (.slice none 0 0):=(ak _ _ (by simp <;> omega)).trans (by go_simp);have z3:w1.cell? ⟨W.heap.size,3,none⟩=some (.slice none 0 0):=(ak _ _ (by simp <;> omega)).trans (by go_simp);have z4:w1.cell? ⟨W.heap.size,4,none⟩=some (.slice none 0 0):=(ak _ _ (by simp <;> omega)).trans (by go_simp);have z5:w1.cell? ⟨W.heap.size,5,none⟩=some (.int .u32 0):=(ak _ _ (by simp <;> omega)).trans (by go_simp);have z6:w1.cell? ⟨W.heap.size,6,none⟩=some (.int .u32 0):=(ak _ _ (by simp <;> omega)).trans (by go_simp);have z7:w1.cell? ⟨W.heap.size,7,none⟩=some (.int .i64 0):=(ak _ _ (by simp <;> omega)).trans (by go_simp);have z8:w1.cell? ⟨W.heap.size,8,none⟩=some (.int .i64 0):=(ak _ _ (by simp <;> omega)).trans (by go_simp);have z9:w1.cell? ⟨W.heap.size,9,none⟩=some (.int .i64 0):=(ak _ _ (by simp <;> omega)).trans (by go_simp);have z10:w1.cell? ⟨W.heap.size,10,none⟩=some (.int .i64 0):=(ak _ _ (by simp <;> omega)).trans (by go_simp);have z11:w1.cell? ⟨W.heap.size,11,none⟩=some (.int .i64 0):=(ak _ _ (by simp <;> omega)).trans (by go_simp);have z12:w1.cell? ⟨W.heap.size,12,none⟩=some (.int .i64 0):=(ak _ _ (by simp <;> omega)).trans (by go_simp);have z13:w1.cell? ⟨W.heap.size,13,none⟩=some (.slice none 0 0):=(ak _ _ (by simp <;> omega)).trans (by go_simp);have z14:w1.cell? ⟨W.heap.size,14,none⟩=some (.slice none 0 0):=(ak _ _ (by simp <;> omega)).trans (by go_simp);have z15:w1.cell? ⟨W.heap.size,15,none⟩=some (.slice none 0 0):=(ak _ _ (by simp <;> omega)).trans (by go_simp);have z16:w1.cell? ⟨W.heap.size,16,none⟩=some (.int .i64 0):=(ak _ _ (by simp <;> omega)).trans (by go_simp);have z17:w1.cell? ⟨W.heap.size,17,none⟩=some (.int .i64 0):=(ak _ _ (by simp <;> omega)).trans (by go_simp);have y0:w1.cell? ⟨W.heap.size+1,0,none⟩=some (.int .i64 0):=(ak _ _ (by simp <;> omega)).trans (by go_simp);have y1:w1.cell? ⟨W.heap.size+1,1,none⟩=some (.int .i64 0):=(ak _ _ (by simp <;> omega)).trans (by go_simp);have y2:w1.cell? ⟨W.heap.size+1,2,none⟩=some (.int .i64 0):=(ak _ _ (by simp <;> omega)).trans (by go_simp);have zf:∀o,w1.frozen? ⟨W.heap.size,o,none⟩=false:=fun o=>(db _ _ (by simp <;> omega)).trans (by go_simp);have yf:∀o,w1.frozen? ⟨W.heap.size+1,o,none⟩=false:=fun o=>(db _ _ (by simp <;> omega)).trans (by go_simp)))
 refine Zc fun F hF=>?_;have aS:W.heap.size≠W.heap.size+1:=by omega
 have hq:=Jp5 (.int .i64 1) (.int .i64 at0) (.int .i64 e) y0 y1 y2
 have hz:∀(j:Nat) (u:Value),([.string ⟨#[]⟩,.slice none 0 0,.slice none 0 0,.slice none 0 0,.slice none 0 0,.int .u32 0,.int .u32 0,.int .i64 0,.int .i64 0,.int .i64 0,.int .i64 0,.int .i64 0,.int .i64 0,.slice none 0 0,.slice none 0 0,.slice none 0 0,.int .i64 0,.int .i64 0]:List Value)[j]?=some u->F.cell? ⟨W.heap.size,j,none⟩=some u:=fun j u hj=>by
  have h1:w1.cell? ⟨W.heap.size,j,none⟩=some u:=Ja ac (J4 ((Kw W _ _ j).trans (by simpa using hj)));rw [hF];exact J4 ((Qy _ _ _ aS).trans h1)
 have hy:∀(j:Nat) (u:Value),([.int .i64 1,.int .i64 at0,.int .i64 e]:List Value)[j]?=some u->F.cell? ⟨W.heap.size+1,j,none⟩=some u:=fun j u hj=>by
  rw [hF]
  match j,hj with
  | 0,hj=>simp at hj;subst hj;exact J4 hq.1
  | 1,hj=>simp at hj;subst hj;exact J4 hq.2.1
  | 2,hj=>simp at hj;subst hj;exact J4 hq.2.2
 have hbF:Below W.heap.size W F:=by
  rw [hF];exact Jc (Qq _ _ _ (Jd (Jc (Jc (Below.refl _ _) _) _) ac) (Nat.le_succ _)) _
 clear hF hq;exact bodyPost_ret (v:= .tuple #[srV ⟨#[]⟩ none 0 0 none 0 0 none 0 0 none 0 0 Im.zero ⟨none,0,none,0,none,0⟩,fV (1,at0,e)]) (Kol rfl [.string ⟨#[]⟩,.slice none 0 0,.slice none 0 0,.slice none 0 0,.slice none 0 0,.int .u32 0,.int .u32 0,.int .i64 0,.int .i64 0,.int .i64 0,.int .i64 0,.int .i64 0,.int .i64 0,.slice none 0 0,.slice none 0 0,.slice none 0 0,.int .i64 0,.int .i64 0] [.int .i64 1,.int .i64 at0,.int .i64 e] rfl rfl (by kernel_rfl) (by kernel_rfl) (by kernel_rfl) (by kernel_rfl) hz hy) rfl ⟨⟨_,_,_,_,_,_,_,_,_,_,_,_,_,⟨none,0,none,0,none,0⟩,rfl,Klf _⟩,hbF⟩
end Go.Proofs.YtdgjplldlfeolaaGreatDoor
