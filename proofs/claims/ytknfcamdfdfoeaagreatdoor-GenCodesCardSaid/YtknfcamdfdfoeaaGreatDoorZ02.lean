/- Lemmas. -/
import Derived.Test.YtknfcamdfdfoeaaGreatDoorMac
import Derived.Test.YtknfcamdfdfoeaaGreatDoorTie
import Derived.Test.YtknfcamdfdfoeaaGreatDoorCards
import Derived.Test.YtknfcamdfdfoeaaGreatDoorZ00
import Derived.Test.YtknfcamdfdfoeaaGreatDoorZ01
import Derived.ProofKit
import Derived.LaidMore
import Derived.OpenShut
import Derived.Stop.Joined
import Derived.Test.YtknfcamdfdfoeaaGreatDoorRows
set_option linter.unusedVariables false
set_option linter.unusedSimpArgs false
set_option maxRecDepth 100000
set_option maxHeartbeats 64000000
namespace Go.Proofs.YtknfcamdfdfoeaaGreatDoor
open Go.ChangeShapes Go.WideShapes Go.ChangeAt Go.WideMaps Go.WideElems Go.RowKit
def Jk4:List (String×DataW Unit):=Rows.genCodesRow.laid
theorem Jww (os:Os) (args:Array Value):laidMetH Tryz.prog Jk4 ((World.doorLaid Tryz.prog 400 os).forCall (fun _ _=>0) ⟨#[],args,[]⟩).memory:=
 laidMetH_of_parts3 (fuel:=8) (laidMet_of_run' 8 Ug Ug) Ug Ug
theorem Jyw {W:World} (h:laidMetH Tryz.prog Jk4 W):Ql W:=by
 rw [MakeChecks.laidMetH_plain _ _ _ Ug] at h;obtain⟨ps,⟨g0,t0,cs0,f0,p0,q0,hg0,fQ,dD,lA,_,_⟩,_,_⟩:=h;obtain rfl:=Option.some.inj ((show Tryz.prog.globalNamed _=some 0 by kernel_rfl).symm.trans hg0);obtain rfl:=Option.some.inj ((show(Tryz.prog.globals[0]?).map (·.type)=some 55 by kernel_rfl).symm.trans fQ);obtain⟨xs,n,rfl,hx,ai,lB,hg⟩:=DataW.trod_struct Tryz.underlying55 lA;rw [Jeq] at ai;obtain⟨cs0⟩:=cs0;simp only [Prod.mk.injEq] at hx;obtain⟨hx,_⟩:=hx
 match cs0,ai,xs,lB with
 | [c0,c1],_,[y0,y1],_=>
  have k0:DataW.trod _ Tryz.prog W 0 _ _ n 3 (([c0,c1].drop 0).take (Tryz.prog.cellsOf 3))=some y0:=hg 0 _ rfl;have k1:DataW.trod _ Tryz.prog W 0 _ _ n 9 (([c0,c1].drop 1).take (Tryz.prog.cellsOf 9))=some y1:=hg 1 _ rfl;rw [Jdi] at k0;rw [Ja1] at k1;obtain⟨k,hk,jl,_⟩:=DataW.trod_int Tryz.underlying3 k0;obtain⟨s,hs,bV,_⟩:=DataW.trod_string Tryz.underlying9 k1;simp at hk hs;subst hk hs;subst jl bV;have hd:(DataW.agg [.lit (.int .i64 0),.lit (.string [])]:DataW Unit) = .agg [.lit (.int .i64 k),.lit (.string s.data.toList)]:=hx;injection hd with hd;injection hd with h1 h2;injection h1 with h1;injection h1 with _ h1;injection h2 with h2 _;injection h2 with h2;injection h2 with h2;have xe:s=⟨#[]⟩:=WideShapes.bytes_inj (by rw [<-h2]);subst h1 xe;have e0:=World.var?_cell hg0 dD 0;have e1:=World.var?_cell hg0 dD 1;exact⟨by simpa using e0,by simpa using e1⟩
section
variable {H:Type} {enc:TypeId×Value->H} {w:World} {spare:Nat->Bool} {held:Bool}
end
end Go.Proofs.YtknfcamdfdfoeaaGreatDoor
namespace Go.Proofs.YtknfcamdfdfoeaaGreatDoor
open Go.RowKit Go.Sort
def Off (base:Nat) (g:Option Nat) (w:World) (P:World->Prop):Prop:=∀w':World,(∀k,base<=k->k<w.heap.size->some k≠g->w'.heap[k]?=w.heap[k]?)->P w'
theorem Off.here {base:Nat} {g:Option Nat} {w:World} {P:World->Prop} (h:Off base g w P):P w:=h w fun _ _ _ _=>rfl
theorem Off.grow {base:Nat} {g g':Option Nat} {w w2:World} {P:World->Prop} (h:Off base g w P) (hs:∀k,base<=k->k<w.heap.size->some k≠g->w2.heap[k]?=w.heap[k]?) (cE:w.heap.size<=w2.heap.size)
  (hg:g'=g\/∀k,g'=some k->w.heap.size<=k):Off base g' w2 P:=fun w' jC=>h w' fun k h1 h2 h3=>by
 refine(jC k h1 Ua ?_).trans (hs k h1 h2 h3)
 rcases hg with rfl|hg
 ·exact h3
 ·intro he;have:=hg k he.symm;exact Ua
theorem Off.fresh {base base0:Nat} {g':Option Nat} {w w2:World} {P:World->Prop} (h:Off base0 none w P) (hb:base<=base0) (hs:∀k,base0<=k->k<w.heap.size->w2.heap[k]?=w.heap[k]?) (cE:w.heap.size<=w2.heap.size)
  (hg:∀k,g'=some k->k<base0\/w.heap.size<=k):Off base g' w2 P:=fun w' jC=>h w' fun k h1 h2 _=>by
 refine(jC k Ua Ua ?_).trans (hs k h1 h2);intro he;have:=hg k he.symm;omega
theorem Off.less {base base0:Nat} {g:Option Nat} {w:World} {P:World->Prop} (h:Off base0 g w P) (hb:base<=base0):Off base g w P:=fun w' jC=>h w' fun k h1 h2 h3=>jC k Ua h2 h3
theorem Off.later {base:Nat} {w w2:World} {P:World->Prop} (h:Off base none w P) (hb:Below w.heap.size w w2):Off base none w2 P:=
 h.grow (fun k _ hk _=>hb.block k hk) hb.size (.inl rfl)
theorem Off.map {base:Nat} {g:Option Nat} {w:World} {P R:World->Prop} (h:Off base g w P) (hpr:∀W,P W->R W):Off base g w R:=fun w' jC=>hpr _ (h w' jC)
section
variable {P:Program} {w:World}
theorem Jkl (base:Nat) (t ty e:TypeId) (z:Value) (size bytes:Nat) (ht:P.underlying t=some (.slice e)) (hi:(P.info? e).map (fun i=>(i.zero,i.size,i.bytes))=some (some z,size,bytes))
  (gH:z.cells.size=size) (cE:0<size) (v:Value) (n:Nat) (xs:List Value) (ae:w.ownsRow base e size v n xs) (ad:Addr) (m c:Nat) (news:List Value)
  (hl:news.length=m * size) (hj:∀j u,news[j]?=some u->w.cell? (ad.add j)=some u) (h1:∀u∈news,u.oneCell'=true) (hn:n+m<=100000000) (hb:bytes<=1000) (aK:base<=w.heap.size) :
  ∃v' w',(Builtin.append_ #[t,t] ty #[v,.slice (some ad) m c]).run P w = .ok v' w'/\w'.ownsRow base e size v' (n+m) (xs ++ news)/\w.grownBy w' v.ownBlock/\
   (v'.ownBlock=v.ownBlock\/∀k,v'.ownBlock=some k->w.heap.size<=k):=by
 obtain⟨i,kF,bD,af,br⟩:=info_parts hi;have iw:n+m<=maxLen:=U2;have cI:(n+m) * bytes<=140737488355328:=Nat.le_trans (Nat.mul_le_mul hn hb) Ua;obtain⟨v',w',hr,h2,h3,_⟩:=run_append_own (P:=P) w base t ty e i z size bytes ht kF bD af br gH cE v n xs ae ad m c news hl hj h1 iw cI aK;refine⟨v',w',hr,h2,h3,?_⟩
 rcases ae.2 with ⟨rfl,rfl⟩|⟨g,cap,cur,rfl,hbg,hg,xz,fG,dj,htake⟩
 ·have xB:w.ownsRow w.heap.size e size (.slice none 0 0) 0 xs:=⟨ae.1,.inl ⟨rfl,rfl⟩⟩;obtain⟨v2,w2,fa,h22,_,_⟩:=run_append_own (P:=P) w w.heap.size t ty e i z size bytes ht kF bD af br gH cE _ 0 xs xB ad m c news hl hj h1 iw cI (Nat.le_refl _);have he:=hr.symm.trans fa;injection he with e1 e2;subst e1 e2;exact .inr fun k hk=>(h22.lt k hk).1
 ·by_cases xC:n+m<=cap
  ·obtain⟨w2,fa,_,_⟩:=run_append_fits (P:=P) w base t ty e i size ht kF af g n cap xs ae ad m c news hl hj h1 xC;have he:=hr.symm.trans fa;injection he with e1 e2;subst e1;exact .inl rfl
  ·have xD:∀j u,xs[j]?=some u->w.cell? ((⟨g,0,none⟩:Addr).add j)=some u:=ae.cells (g:=g) rfl;subst af;have fa:=run_append_grow (P:=P) w t ty e i z ht kF bD ⟨g,0,none⟩ n cap xs ae.1 xD ad m c news hl hj Ua Ua (by subst br;exact growslice_fits Ua cI);have he:=hr.symm.trans fa;injection he with e1 e2;subst e1;refine .inr fun k hk=>?_;simp [Value.ownBlock] at hk;omega
theorem Jvm (g j:Nat):(⟨g,0,none⟩:Addr).add j=⟨g,j,none⟩:=Lq
theorem Ji5 {o:Oper} {a:Act} {K:Act->World->Prop} {Q:Exit->Act->World->Prop} (s x:Operand) (t:TypeId)
  (ho:o.op = .call {callee:= .builtin .append,args:=#[s,x],argTypes:=#[t,t]})
  (base:Nat) (e:TypeId) (z:Value) (size bytes:Nat) (ht:P.underlying t=some (.slice e)) (hi:(P.info? e).map (fun i=>(i.zero,i.size,i.bytes))=some (some z,size,bytes))
  (gH:z.cells.size=size) (cE:0<size) (v:Value) (n:Nat) (xs:List Value) (g m c:Nat) (news:List Value) (hs:a.eval s=v) (ae:w.ownsRow base e size v n xs)
  (hx:a.eval x = .slice (some ⟨g,0,none⟩) m c) (hl:news.length=m * size) (hj:∀j u,news[j]?=some u->w.cell? ⟨g,j,none⟩=some u) (h1:∀u∈news,u.oneCell'=true) (hn:n+m<=100000000) (hb:bytes<=1000) (aK:base<=w.heap.size)
  (h:∀v' w',w'.ownsRow base e size v' (n+m) (xs ++ news)->w.grownBy w' v.ownBlock->(v'.ownBlock=v.ownBlock\/∀k,v'.ownBlock=some k->w.heap.size<=k)->K (a.put o.dst v') w'):o.wp P a w K Q:=by
 obtain⟨v',w',hr,h2,h3,h4⟩:=Jkl (P:=P) base t o.type e z size bytes ht hi gH cE v n xs ae ⟨g,0,none⟩ m c news hl (fun j u hu=>by rw [Jvm];exact hj j u hu) h1 hn hb aK;unfold Oper.wp execOp;simp only [ho,resolve,invoke,builtin,Sem.run_bind,Sem.run_pure,Result.andThen_ok,List.map_toArray,List.map_cons,List.map_nil,hs,hx,hr];exact h v' w' h2 h3 h4
theorem Z2 {ops:Array Oper} {rest:List Oper} {o:Oper} {a:Act} {Q:Exit->Act->World->Prop} (oL:o.guard=none) (s x:Operand) (t:TypeId)
  (ho:o.op = .call {callee:= .builtin .append,args:=#[s,x],argTypes:=#[t,t]})
  (base:Nat) (e:TypeId) (z:Value) (size bytes:Nat) (ht:P.underlying t=some (.slice e)) (hi:(P.info? e).map (fun i=>(i.zero,i.size,i.bytes))=some (some z,size,bytes))
  (gH:z.cells.size=size) (cE:0<size) (v:Value) (n:Nat) (xs:List Value) (g m c:Nat) (news:List Value) (hs:a.eval s=v) (ae:w.ownsRow base e size v n xs)
  (hx:a.eval x = .slice (some ⟨g,0,none⟩) m c) (hl:news.length=m * size) (hj:∀j u,news[j]?=some u->w.cell? ⟨g,j,none⟩=some u) (h1:∀u∈news,u.oneCell'=true) (hn:n+m<=100000000) (hb:bytes<=1000) (aK:base<=w.heap.size)
  (h:∀v' w',w'.ownsRow base e size v' (n+m) (xs ++ news)->w.grownBy w' v.ownBlock->(v'.ownBlock=v.ownBlock\/∀k,v'.ownBlock=some k->w.heap.size<=k)->wpList P ops Q rest (a.put o.dst v') w'):wpList P ops Q (o :: rest) a w:=
 wpList_plain oL fun _ hK=>Ji5 s x t ho base e z size bytes ht hi gH cE v n xs g m c news hs ae hx hl hj h1 hn hb aK fun v' w' h2 h3 h4=>hK _ _ (h v' w' h2 h3 h4)
theorem Ju6 {ops:Array Oper} {o:Oper} {a:Act} {K:Act->World->Prop} {Q:Exit->Act->World->Prop} {E:Prop} (oL:o.guard=none) (s x:Operand) (t:TypeId)
  (ho:o.op = .call {callee:= .builtin .append,args:=#[s,x],argTypes:=#[t,t]})
  (base:Nat) (e:TypeId) (z:Value) (size bytes:Nat) (ht:P.underlying t=some (.slice e)) (hi:(P.info? e).map (fun i=>(i.zero,i.size,i.bytes))=some (some z,size,bytes))
  (gH:z.cells.size=size) (cE:0<size) (v:Value) (n:Nat) (xs:List Value) (g m c:Nat) (news:List Value) (hs:a.eval s=v) (ae:w.ownsRow base e size v n xs)
  (hx:a.eval x = .slice (some ⟨g,0,none⟩) m c) (hl:news.length=m * size) (hj:∀j u,news[j]?=some u->w.cell? ⟨g,j,none⟩=some u) (h1:∀u∈news,u.oneCell'=true) (hn:n+m<=100000000) (hb:bytes<=1000) (aK:base<=w.heap.size)
  (h:∀v' w',w'.ownsRow base e size v' (n+m) (xs ++ news)->w.grownBy w' v.ownBlock->(v'.ownBlock=v.ownBlock\/∀k,v'.ownBlock=some k->w.heap.size<=k)->K (a.put o.dst v') w'):if Region.wanted o (yielded ops a.tmps)=true then Oper.wp P o a w K Q else E:=by
 have hw:Region.wanted o (yielded ops a.tmps)=true:=by simp [Region.wanted,oL]
 rw [if_pos hw];exact Ji5 s x t ho base e z size bytes ht hi gH cE v n xs g m c news hs ae hx hl hj h1 hn hb aK h
end
def exC (x:Ex) (a:Option Addr×Nat):List Value:=[.int .i64 x.kind,.int .i32 x.n,.string x.name,.slice a.1 x.sub.length a.2]
def Ya:List Ex->List (Option Addr×Nat)->List Value
 | x :: l,a :: ls=>exC x a ++ Ya l ls
 | _,_=>[]
theorem Jih:∀(l:List Ex) (ls:List (Option Addr×Nat)) (x:Ex) (a:Option Addr×Nat),ls.length=l.length->Ya (l ++ [x]) (ls ++ [a])=Ya l ls ++ exC x a
 | [],[],x,a,_=>by simp [Ya]
 | y :: l,b :: ls,x,a,h=>by
  simp only [List.cons_append,Ya,List.append_assoc];rw [Jih l ls x a Ve]
 | [],b :: ls,x,a,h=>Lt
 | y :: l,[],x,a,h=>Lt
theorem Xv.of_cells {w:World} {b:Nat} : ∀(l:List Ex) (ls:List (Option Addr×Nat)) (off:Nat),ls.length=l.length->(∀j u,(Ya l ls)[j]?=some u->w.cell? ⟨b,off+j,none⟩=some u)->
  (∀(j:Nat) (x:Ex) (a:Option Addr×Nat),l[j]?=some x->ls[j]?=some a->Jt w x a.1 a.2)->Xv w b l off
 | [],_,off,_,_,_=>by simp [Xv]
 | y :: l,[],off,h,_,_=>Lt
 | y :: l,a :: ls,off,h,hc,hs=>by
  rw [Xv];refine⟨⟨a.1,a.2,?_,?_,?_,?_,hs 0 y a rfl rfl⟩,Xv.of_cells l ls (off+4) Ve ?_ ?_⟩
  ·exact hc 0 _ rfl
  ·exact hc 1 _ rfl
  ·exact hc 2 _ rfl
  ·exact hc 3 _ rfl
  ·intro j u hj;have:=hc (4+j) u (by rw [Ya,List.getElem?_append_right (by simp [exC])];simpa [exC] using hj)
   rwa [show off+4+j=off+(4+j) from by omega]
  ·intro j x a' h1 h2;exact hs (j+1) x a' Lw Lg
theorem Jr {w w':World} {a:Addr} {v:Value} (h:w'.heap[a.block]?=w.heap[a.block]?) (hc:w.cell? a=some v):w'.cell? a=some v:=by
 rw [World.cell?_of_block h];exact hc
theorem Jt.of_own {w:World} {base:Nat} {t:TypeId} {x:Ex} {v:Value} {ls:List (Option Addr×Nat)} (h:w.ownsRow base t 4 v x.sub.length (Ya x.sub ls)) (hl:ls.length=x.sub.length)
  (hs:∀(j:Nat) (y:Ex) (a:Option Addr×Nat),x.sub[j]?=some y->ls[j]?=some a->Off base v.ownBlock w (fun W=>Jt W y a.1 a.2)):∃A cap,v = .slice A x.sub.length cap/\Off base none w (fun W=>Jt W x A cap):=by
 rcases Nat.eq_zero_or_pos x.sub.length with h0|h0
 ·obtain⟨A,cap,rfl,h1,h2⟩:=Jv h;refine⟨A,cap,rfl,fun w' _=>?_⟩;show Jt w' x A cap;rw [Jao];exact⟨h1,h2,fun h=>absurd h Ua⟩
 ·obtain⟨g,cap,rfl,hg,am,h1,h2,hc⟩:=Kc h h0;refine⟨_,cap,rfl,fun w' jC=>?_⟩;show Jt w' x _ cap;rw [Jao];refine⟨h1,h2,fun _=>⟨g,0,rfl,Xv.of_cells _ ls 0 hl (fun j u hj=>?_) fun j y a hy ha=>hs j y a hy ha w' fun k k1 k2 _=>jC k k1 k2 Ul⟩⟩;rw [Nat.zero_add];exact Jr (jC g hg am Ul) (hc j u hj)
def eqC (q:Qe) (a:(Option Addr×Nat)×(Option Addr×Nat)):List Value:=
 [.string q.name,.int .i64 q.delay,.int .i64 q.first.kind,.int .i32 q.first.n,.string q.first.name,.slice a.1.1 q.first.sub.length a.1.2,.int .i64 q.e.kind,.int .i32 q.e.n,.string q.e.name,.slice a.2.1 q.e.sub.length a.2.2]
def Jed:List Qe->List ((Option Addr×Nat)×(Option Addr×Nat))->List Value
 | q :: l,a :: ls=>eqC q a ++ Jed l ls
 | _,_=>[]
theorem Jmw:∀(l:List Qe) (ls:List ((Option Addr×Nat)×(Option Addr×Nat))) (x:Qe) (a:(Option Addr×Nat)×(Option Addr×Nat)),ls.length=l.length->Jed (l ++ [x]) (ls ++ [a])=Jed l ls ++ eqC x a
 | [],[],x,a,_=>by simp [Jed]
 | y :: l,b :: ls,x,a,h=>by
  simp only [List.cons_append,Jed,List.append_assoc];rw [Jmw l ls x a Ve]
 | [],b :: ls,x,a,h=>Lt
 | y :: l,[],x,a,h=>Lt
theorem Jrk:∀(l:List Qe) (ls:List ((Option Addr×Nat)×(Option Addr×Nat))) (k:Nat) (q:Qe) (a:(Option Addr×Nat)×(Option Addr×Nat)),l[k]?=some q->ls[k]?=some a->∀(i:Nat) (u:Value),(eqC q a)[i]?=some u->(Jed l ls)[k * 10+i]?=some u
 | [],_,k,q,a,h,_,_,_,_=>Lt
 | y :: l,[],k,q,a,_,h,_,_,_=>Lt
 | y :: l,b :: ls,0,q,a,h1,h2,i,u,hu=>by
  simp at h1 h2;subst h1 h2;have hi:i<(eqC y b).length:=(List.getElem?_eq_some_iff.1 hu).1;rw [Jed,Nat.zero_mul,Nat.zero_add,List.getElem?_append_left hi];exact hu
 | y :: l,b :: ls,k+1,q,a,h1,h2,i,u,hu=>by
  have ai:(eqC y b).length=10:=rfl;rw [Jed,List.getElem?_append_right (by rw [ai];omega),ai,show(k+1) * 10+i-10=k * 10+i from by omega];exact Jrk l ls k q a Lw Lg i u hu
theorem Jap.of_own {w:World} {base:Nat} {t:TypeId} {l:List Qe} {v:Value} {ls:List ((Option Addr×Nat)×(Option Addr×Nat))} (h:w.ownsRow base t 10 v l.length (Jed l ls)) (hl:ls.length=l.length)
  (hs:∀(j:Nat) (q:Qe) (a:(Option Addr×Nat)×(Option Addr×Nat)),l[j]?=some q->ls[j]?=some a->Off base v.ownBlock w (fun W=>Jt W q.first a.1.1 a.1.2/\Jt W q.e a.2.1 a.2.2)):∃A cap,v = .slice A l.length cap/\Off base none w (fun W=>Jap W l A cap):=by
 rcases Nat.eq_zero_or_pos l.length with h0|h0
 ·obtain⟨A,cap,rfl,h1,h2⟩:=Jv h;exact⟨A,cap,rfl,fun w' _=>⟨h1,h2,fun h=>absurd h Ua⟩⟩
 ·obtain⟨g,cap,rfl,hg,am,h1,h2,hc⟩:=Kc h h0;refine⟨_,cap,rfl,fun w' jC=>⟨h1,h2,fun _=>⟨g,0,rfl,fun k q hk=>?_⟩⟩⟩;have hka:k<ls.length:=by rw [hl];exact(List.getElem?_eq_some_iff.1 hk).1
  have ha:ls[k]?=some ls[k]:=List.getElem?_eq_getElem hka;generalize ls[k]=a at ha;have cB:=fun i u hu=>Jr (jC g hg am Ul) (hc _ _ (Jrk l ls k q a hk ha i u hu));rw [Nat.zero_add];have aT:=hs k q a hk ha w' fun k k1 k2 _=>jC k k1 k2 Ul;exact⟨a.1.1,a.1.2,a.2.1,a.2.2,⟨cB 0 _ rfl,cB 1 _ rfl,cB 2 _ rfl,cB 3 _ rfl,cB 4 _ rfl,cB 5 _ rfl,cB 6 _ rfl,cB 7 _ rfl,cB 8 _ rfl,cB 9 _ rfl,aT.1,aT.2⟩⟩
theorem Ju.off_own {w:World} {base:Nat} {e:TypeId} {l:List Va} {v:Value} (h:w.ownsRow base e 4 v l.length (Xe l)):∃A cap,v = .slice A l.length cap/\Off base none w (fun W=>Ju W l A cap):=by
 obtain⟨A,cap,rfl,h1,h2⟩:=Jv h;refine⟨A,cap,rfl,fun w' jC=>?_⟩
 rcases Nat.eq_zero_or_pos l.length with h0|h0
 ·exact⟨h1,h2,fun hl=>absurd hl Ua⟩
 ·obtain⟨g,c',hv,hg,am,h1,h2,hc⟩:=Kc h h0;injection hv with e1 e2 e3;subst e1 e3;refine⟨h1,h2,fun _=>⟨g,0,rfl,fun k v hk=>?_⟩⟩;have ha:=fun i u hu=>Jr (jC g hg am Ul) (hc _ _ (Jrh l k v hk i u hu));rw [Nat.zero_add];exact⟨ha 0 _ rfl,ha 1 _ rfl,ha 2 _ rfl,ha 3 _ rfl⟩
theorem Ju.off_own' {w:World} {base:Nat} {e:TypeId} {l:List Va} {A:Option Addr} {cap:Nat} (h:w.ownsRow base e 4 (.slice A l.length cap) l.length (Xe l)):Off base none w (fun W=>Ju W l A cap):=by
 obtain⟨A',cap',hv,ho⟩:=Ju.off_own h;injection hv with e1 e2 e3;subst e1 e3;exact ho
theorem Qo {w:World} {c:Array Value} {t:TypeId} {g j:Nat} (hg:g=w.heap.size):(w.alloc (.cells c t)).cell? ⟨g,j,none⟩=c[j]?:=by subst hg;exact Kw w c t j
theorem Kn {B n size z:Nat} {t:TypeId} {w:World} {v:Value} {xs:List Value} (ae:w.ownsRow B t size v n xs) (hz:∀b,v.ownBlock=some b->b≠z) (o:Nat) (u:Value):(w.setCell ⟨z,o,none⟩ u).ownsRow B t size v n xs:=
 ae.kept (row:=some z) ⟨rfl,rfl,rfl,Ul,fun k _ hk=>heap_setCell_other w ⟨z,o,none⟩ k u (fun e=>hk (by rw [e]))⟩ (by
  cases hb:v.ownBlock with
  | none=>exact .inl rfl
  | some b=>
   right
   intro he;injection he with he;exact hz b hb he)
theorem Jzb {W w3 a:World} {row:Option Nat} {B:Nat} (_:W.grownBy w3 row) (h:Below B a W):Below B a W:=h
theorem K8 {w:World} {B B' n size:Nat} {t:TypeId} {v:Value} {xs:List Value} (h:w.ownsRow B t size v n xs) (hb:B'<=B):w.ownsRow B' t size v n xs:=by
 refine⟨h.1,?_⟩
 rcases h.2 with h2|⟨g,cap',cur,hv,hg,r⟩
 ·exact .inl h2
 ·exact .inr ⟨g,cap',cur,hv,Ua,r⟩
theorem Jbd {B n size z:Nat} {t:TypeId} {w:World} {v:Value} {xs:List Value} (ae:w.ownsRow B t size v n xs) (hz:z<B) (o:Nat) (u:Value):(w.setCell ⟨z,o,none⟩ u).ownsRow B t size v n xs:=
 ae.kept (row:=some z) ⟨rfl,rfl,rfl,Ul,fun k _ hk=>heap_setCell_other w ⟨z,o,none⟩ k u (fun e=>hk (by rw [e]))⟩ (by
  cases hb:v.ownBlock with
  | none=>exact .inl rfl
  | some b=>
   right
   intro he;have:=(ae.lt b hb).1;injection he with he;omega)
theorem J2 {z:Nat} {w w1 w3:World} {row:Option Nat} (h:Below z w w1) (hg:w1.grownBy w3 row) (ay:∀b,row=some b->z<=b) (hz:z<=w1.heap.size):Below z w w3:=
 ⟨hg.os.trans h.os,hg.tape.trans h.tape,hg.output.trans h.output,Nat.le_trans h.size hg.size,fun k hk=>(hg.block k Ua (fun he=>by have:=ay k he.symm;omega)).trans (h.block k hk)⟩
theorem Jii {B n size:Nat} {t:TypeId} {wr w1 w3:World} {v:Value} {xs:List Value} (ae:wr.ownsRow B t size v n xs) (hB:B<=wr.heap.size) (ac:Below wr.heap.size wr w1) (hg:w1.grownBy w3 v.ownBlock):∀k,k<B->w3.heap[k]?=wr.heap[k]?:=fun k hk=>by
 have:=ac.size;refine(hg.block k Ua fun he=>?_).trans (ac.block k Ua);have:=(ae.lt k he.symm).1;exact Ua
theorem Kv {a b c:World} {r:Option Nat} (h:a.grownBy b r) (k:b.grownBy c r):a.grownBy c r:=
 ⟨k.os.trans h.os,k.tape.trans h.tape,k.output.trans h.output,Nat.le_trans h.size k.size,fun i hi aS=>(k.block i (Nat.lt_of_lt_of_le hi h.size) aS).trans (h.block i hi aS)⟩
theorem K0 {a b:World} {r:Option Nat} (h:Below a.heap.size a b):a.grownBy b r:=⟨h.os,h.tape,h.output,h.size,fun i hi _=>h.block i hi⟩
theorem Jpn {a b:World} {g:Nat} (h:a.grownBy b (some g)) (o:Nat) (u:Value):a.grownBy (b.setCell ⟨g,o,none⟩ u) (some g):=
 ⟨h.os,h.tape,h.output,by simpa using h.size,fun i hi aS=>(heap_setCell_other b ⟨g,o,none⟩ i u (fun e=>aS (by rw [e]))).trans (h.block i hi aS)⟩
theorem Qz:(Tryz.prog.info? 59).map (fun i=>(i.zero,i.size,i.bytes))=some (some (.agg #[.int .i64 0,.int .i32 0]),2,16):=Ug
def cdC (l:List (Int×Int)):List Value:=l.flatMap fun x=>[.int .i64 x.1,.int .i32 x.2]
theorem Jma:∀l:List (Int×Int),(cdC l).length=l.length * 2
 | []=>rfl
 | x :: l=>by
  have:=Jma l;unfold cdC at this ⊢;exact Uc7
theorem Jbr (a b:List (Int×Int)):cdC (a ++ b)=cdC a ++ cdC b:=by unfold cdC;simp
theorem Q2 (l:List (Int×Int)):∀u∈cdC l,u.oneCell'=true:=by
 intro u hu;unfold cdC at hu;rw [List.mem_flatMap] at hu;obtain⟨x,_,hx⟩:=hu;simp only [List.mem_cons,List.not_mem_nil,or_false] at hx
 rcases hx with rfl|rfl <;> rfl
theorem Joi:∀(l:List (Int×Int)) (k:Nat) (x:Int×Int),l[k]?=some x->(cdC l)[k * 2]?=some (.int .i64 x.1)/\(cdC l)[k * 2+1]?=some (.int .i32 x.2)
 | [],k,x,h=>Lt
 | y :: l,0,x,h=>by simp at h;subst h;exact⟨rfl,rfl⟩
 | y :: l,k+1,x,h=>by
  have:=Joi l k x Ve;have e:cdC (y :: l) = [.int .i64 y.1,.int .i32 y.2] ++ cdC l:=rfl;exact Ua2
def J3 (w:World) (l:List (Int×Int)) (A:Option Addr) (cap:Nat):Prop:=l.length<=cap/\cap<=maxLen/\X6 w A l.length 2 (cdC l)
theorem Jds {w w':World} {A:Option Addr} {m size:Nat} {news:List Value} (h:X6 w A m size news) (hb:Below w.heap.size w w'):X6 w' A m size news:=
 ⟨h.1,fun hm=>by
  obtain⟨b,off,hA,hc⟩:=h.2 hm;exact⟨b,off,hA,fun j u hj=>Ja hb (hc j u hj)⟩⟩
theorem J3.later {w w':World} {l:List (Int×Int)} {A:Option Addr} {cap:Nat} (h:J3 w l A cap) (hb:Below w.heap.size w w'):J3 w' l A cap:=⟨h.1,h.2.1,Jds h.2.2 hb⟩
theorem J3.of_own {w:World} {base:Nat} {e:TypeId} {l:List (Int×Int)} {v:Value} (h:w.ownsRow base e 2 v l.length (cdC l)):∃A cap,v = .slice A l.length cap/\J3 w l A cap:=by
 obtain⟨A,cap,rfl,h1,h2⟩:=Jv h;refine⟨A,cap,rfl,h1,h2,Jma l,fun hm=>?_⟩;exact Uct
structure Jbv where
 l:List (Int×Int)
 A:Option Addr
 cap:Nat
def Jbv.val (x:Jbv):Value:= .slice x.A x.l.length x.cap
def Je1 (w:World) (ps:List Jbv) (A:Option Addr):Prop:=(0<ps.length->∃b off,A=some ⟨b,off,none⟩/\∀(k:Nat) (x:Jbv),ps[k]?=some x->w.cell? ⟨b,off+k,none⟩=some x.val)/\∀x∈ps,J3 w x.l x.A x.cap
theorem Je1.later {w w':World} {ps:List Jbv} {A:Option Addr} (h:Je1 w ps A) (hb:Below w.heap.size w w'):Je1 w' ps A:=
 ⟨fun hl=>by
  obtain⟨b,off,hA,hc⟩:=h.1 hl;exact⟨b,off,hA,fun k x hk=>Ja hb (hc k x hk)⟩,fun x hx=>(h.2 x hx).later hb⟩
def Qu (ps:List Jbv):List (Int×Int):=ps.flatMap Jbv.l
theorem Js3 {ps:List Jbv} {k:Nat} {x:Jbv} (h:ps[k]?=some x):Qu (ps.take (k+1))=Qu (ps.take k) ++ x.l:=by
 unfold Qu;rw [List.take_add_one,h];exact Ul
theorem Jnv {ps:List Jbv} {k:Nat} : (Qu (ps.take k)).length<=(Qu ps).length:=by
 have:Qu ps=Qu (ps.take k) ++ Qu (ps.drop k):=by unfold Qu;rw [<-List.flatMap_append,List.take_append_drop]
 rw [this,List.length_append];omega
section
variable {P:Program} {w:World}
theorem Jwv (base:Nat) (t ty e:TypeId) (z:Value) (size bytes:Nat) (ht:P.underlying t=some (.slice e)) (hi:(P.info? e).map (fun i=>(i.zero,i.size,i.bytes))=some (some z,size,bytes))
  (gH:z.cells.size=size) (cE:0<size) (v:Value) (n:Nat) (xs:List Value) (ae:w.ownsRow base e size v n xs) (A:Option Addr) (m c:Nat) (news:List Value)
  (hc:X6 w A m size news) (h1:∀u∈news,u.oneCell'=true) (hn:n+m<=100000000) (hb:bytes<=1000) (aK:base<=w.heap.size) :
  ∃v' w',(Builtin.append_ #[t,t] ty #[v,.slice A m c]).run P w = .ok v' w'/\w'.ownsRow base e size v' (n+m) (xs ++ news)/\w.grownBy w' v.ownBlock/\
   (v'.ownBlock=v.ownBlock\/∀k,v'.ownBlock=some k->w.heap.size<=k):=by
 obtain⟨hl,ah⟩:=hc
 rcases Nat.eq_zero_or_pos m with rfl|hm
 ·have:news = []:=List.eq_nil_of_length_eq_zero (by simpa using hl);subst this
  cases A with
  | none=>
   obtain⟨i,kF,_,_,_⟩:=info_parts hi;exact⟨v,w,Jju base t ty e i size ht kF v n xs ae c,by simpa using ae,⟨rfl,rfl,rfl,Nat.le_refl _,fun _ _ _=>rfl⟩,.inl rfl⟩
  | some ad=>exact Jkl base t ty e z size bytes ht hi gH cE v n xs ae ad 0 c [] hl (fun j u hj=>by simp at hj) h1 hn hb aK
 ·obtain⟨b,off,rfl,hj⟩:=ah hm;refine Jkl base t ty e z size bytes ht hi gH cE v n xs ae _ m c news hl (fun j u hu=>?_) h1 hn hb aK;have cQ:(⟨b,off,none⟩:Addr).add j=⟨b,off+j,none⟩:=Lq;rw [cQ];exact hj j u hu
theorem Jez {o:Oper} {a:Act} {K:Act->World->Prop} {Q:Exit->Act->World->Prop} (s x:Operand) (t:TypeId)
  (ho:o.op = .call {callee:= .builtin .append,args:=#[s,x],argTypes:=#[t,t]})
  (base:Nat) (e:TypeId) (z:Value) (size bytes:Nat) (ht:P.underlying t=some (.slice e)) (hi:(P.info? e).map (fun i=>(i.zero,i.size,i.bytes))=some (some z,size,bytes))
  (gH:z.cells.size=size) (cE:0<size) (v:Value) (n:Nat) (xs:List Value) (A:Option Addr) (m c:Nat) (news:List Value) (hs:a.eval s=v) (ae:w.ownsRow base e size v n xs)
  (hx:a.eval x = .slice A m c) (hc:X6 w A m size news) (h1:∀u∈news,u.oneCell'=true) (hn:n+m<=100000000) (hb:bytes<=1000) (aK:base<=w.heap.size)
  (h:∀v' w',w'.ownsRow base e size v' (n+m) (xs ++ news)->w.grownBy w' v.ownBlock->(v'.ownBlock=v.ownBlock\/∀k,v'.ownBlock=some k->w.heap.size<=k)->K (a.put o.dst v') w'):o.wp P a w K Q:=by
 obtain⟨v',w',hr,h2,h3,h4⟩:=Jwv (P:=P) base t o.type e z size bytes ht hi gH cE v n xs ae A m c news hc h1 hn hb aK;unfold Oper.wp execOp;simp only [ho,resolve,invoke,builtin,Sem.run_bind,Sem.run_pure,Result.andThen_ok,List.map_toArray,List.map_cons,List.map_nil,hs,hx,hr];exact h v' w' h2 h3 h4
theorem Qv {ops:Array Oper} {rest:List Oper} {o:Oper} {a:Act} {Q:Exit->Act->World->Prop} (oL:o.guard=none) (s x:Operand) (t:TypeId)
  (ho:o.op = .call {callee:= .builtin .append,args:=#[s,x],argTypes:=#[t,t]})
  (base:Nat) (e:TypeId) (z:Value) (size bytes:Nat) (ht:P.underlying t=some (.slice e)) (hi:(P.info? e).map (fun i=>(i.zero,i.size,i.bytes))=some (some z,size,bytes))
  (gH:z.cells.size=size) (cE:0<size) (v:Value) (n:Nat) (xs:List Value) (A:Option Addr) (m c:Nat) (news:List Value) (hs:a.eval s=v) (ae:w.ownsRow base e size v n xs)
  (hx:a.eval x = .slice A m c) (hc:X6 w A m size news) (h1:∀u∈news,u.oneCell'=true) (hn:n+m<=100000000) (hb:bytes<=1000) (aK:base<=w.heap.size)
  (h:∀v' w',w'.ownsRow base e size v' (n+m) (xs ++ news)->w.grownBy w' v.ownBlock->(v'.ownBlock=v.ownBlock\/∀k,v'.ownBlock=some k->w.heap.size<=k)->wpList P ops Q rest (a.put o.dst v') w'):wpList P ops Q (o :: rest) a w:=
 wpList_plain oL fun _ hK=>Jez s x t ho base e z size bytes ht hi gH cE v n xs A m c news hs ae hx hc h1 hn hb aK fun v' w' h2 h3 h4=>hK _ _ (h v' w' h2 h3 h4)
end
theorem Jib {a b c:World} {r0 r1:Option Nat} (h1:a.grownBy b r0) (h2:b.grownBy c r1) (hr:r1=r0\/∀k,r1=some k->a.heap.size<=k):a.grownBy c r0:=
 ⟨h2.os.trans h1.os,h2.tape.trans h1.tape,h2.output.trans h1.output,Nat.le_trans h1.size h2.size,fun k hk aS=>(h2.block k (Nat.lt_of_lt_of_le hk h1.size) (by
  rcases hr with rfl|hr
  ·exact aS
  ·intro he;have:=hr k he.symm;omega)).trans (h1.block k hk aS)⟩
theorem Zj (w:World) (r:Option Nat):w.grownBy w r:=⟨rfl,rfl,rfl,Nat.le_refl _,fun _ _ _=>rfl⟩
theorem X5 {B n size:Nat} {t:TypeId} {w W:World} {v u:Value} {xs:List Value} (h:w.ownsRow B t size v n xs) (hg:w.grownBy W u.ownBlock) (aS:∀b,u.ownBlock=some b->v.ownBlock≠some b):W.ownsRow B t size v n xs:=by
 refine h.kept hg ?_
 cases hb:u.ownBlock with
 | none=>cases hv:v.ownBlock with
  | none=>exact .inl rfl
  | some k=>exact .inr Ul
 | some b=>exact .inr (aS b hb)
theorem Jmf {u v v2:Value} {S:Nat} (h:∀b,u.ownBlock=some b->v.ownBlock≠some b) (hu:∀b,u.ownBlock=some b->b<S) (h2:v2.ownBlock=v.ownBlock\/∀b,v2.ownBlock=some b->S<=b):∀b,u.ownBlock=some b->v2.ownBlock≠some b:=fun b hb he=>by
 rcases h2 with h2|h2
 ·exact h b hb (h2 ▸ he)
 ·have:=h2 b he;have:=hu b hb;omega
theorem Jcu {u v:Value} (h:∀b,u.ownBlock=some b->v.ownBlock≠some b):∀b,v.ownBlock=some b->u.ownBlock≠some b:=fun b hb he=>h b he hb
theorem Qr {w:World} {c:Array Value} {t:TypeId} {m size:Nat} {news:List Value} (hc:c=news.toArray) (hl:news.length=m * size):X6 (w.alloc (.cells c t)) (some ⟨w.heap.size,0,none⟩) m size news:=
 ⟨hl,fun _=>⟨w.heap.size,0,rfl,fun j u hj=>by rw [Nat.zero_add,Kw,hc];simpa using hj⟩⟩
structure Zo (B:Nat) (w0:World) (g:Option Nat) (W:World) (v:Value) (l:List (Int×Int)):Prop where
 own:W.ownsRow B 59 2 v l.length (cdC l)
 blk:v.ownBlock=g\/∀k,v.ownBlock=some k->w0.heap.size<=k
 grow:w0.grownBy W g
theorem Zo.start {B:Nat} {w:World} {v:Value} {l:List (Int×Int)} (h:w.ownsRow B 59 2 v l.length (cdC l)):Zo B w v.ownBlock w v l:=⟨h,.inl rfl,Zj _ _⟩
theorem Zo.bel {B:Nat} {w0 W W':World} {g:Option Nat} {v:Value} {l:List (Int×Int)} (h:Zo B w0 g W v l) (hb:Below W.heap.size W W'):Zo B w0 g W' v l:=⟨Jy h.own hb,h.blk,Kv h.grow (K0 hb)⟩
theorem Zo.app {B:Nat} {w0 W W2:World} {g:Option Nat} {v v2:Value} {l a:List (Int×Int)} (h:Zo B w0 g W v l) (ae:W2.ownsRow B 59 2 v2 (l.length+a.length) (cdC l ++ cdC a)) (hg:W.grownBy W2 v.ownBlock)
  (hv:v2.ownBlock=v.ownBlock\/∀k,v2.ownBlock=some k->W.heap.size<=k):Zo B w0 g W2 v2 (l ++ a):=by
 refine⟨by rw [List.length_append,Jbr];exact ae,?_,Jib h.grow hg h.blk⟩
 rcases hv with hv|hv
 ·rw [hv];exact h.blk
 ·exact .inr fun k hk=>Nat.le_trans h.grow.size (hv k hk)
theorem Zo.next {B:Nat} {w0 W W2:World} {g:Option Nat} {v v2:Value} {l l2:List (Int×Int)} (h:Zo B w0 g W v l) (h2:Zo B W v.ownBlock W2 v2 l2):Zo B w0 g W2 v2 l2:=by
 refine⟨h2.own,?_,Jib h.grow h2.grow h.blk⟩
 rcases h2.blk with hv|hv
 ·rw [hv];exact h.blk
 ·exact .inr fun k hk=>Nat.le_trans h.grow.size (hv k hk)
theorem Zo.base {B:Nat} {w0 W:World} {g:Option Nat} {v:Value} {l:List (Int×Int)} (h:Zo B w0 g W v l) (hB:B<=w0.heap.size):B<=W.heap.size:=Nat.le_trans hB h.grow.size
theorem Zo.below {B:Nat} {w0 W:World} {g:Option Nat} {v:Value} {l:List (Int×Int)} (h:Zo B w0 g W v l) (hg:∀b,g=some b->B<=b) (hB:B<=w0.heap.size) {w:World} (hw:Below B w w0):Below B w W:=J2 hw h.grow hg hB
def Jcc (B:Nat) (w:World) (v:Value) (l:List (Int×Int)) (r:Ending) (w':World):Prop:=∃v',r = .returned v'/\Zo B w v.ownBlock w' v' l
end Go.Proofs.YtknfcamdfdfoeaaGreatDoor
