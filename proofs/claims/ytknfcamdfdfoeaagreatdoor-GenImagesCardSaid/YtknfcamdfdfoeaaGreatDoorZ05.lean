/- Lemmas. -/
import Derived.Test.YtknfcamdfdfoeaaGreatDoorMac
import Derived.Test.YtknfcamdfdfoeaaGreatDoorZ00
import Derived.Test.YtknfcamdfdfoeaaGreatDoorZ04
import Derived.Test.YtknfcamdfdfoeaaGreatDoorZ02
set_option linter.unusedVariables false
set_option linter.unusedSimpArgs false
set_option maxRecDepth 100000
set_option maxHeartbeats 64000000
namespace Go.Proofs.YtknfcamdfdfoeaaGreatDoor
open Go.RowKit Go.Sort
def Off (base:Nat) (g:Option Nat) (w:World) (P:World->Prop):Prop:=∀w':World,(∀k,base<=k->k<w.heap.size->some k≠g->w'.heap[k]?=w.heap[k]?)->P w'
theorem Off.here {base:Nat} {g:Option Nat} {w:World} {P:World->Prop} (h:Off base g w P):P w:=h w fun _ _ _ _=>rfl
theorem Off.grow {base:Nat} {g g':Option Nat} {w w2:World} {P:World->Prop} (h:Off base g w P) (hs:∀k,base<=k->k<w.heap.size->some k≠g->w2.heap[k]?=w.heap[k]?) (cE:w.heap.size<=w2.heap.size)
  (hg:g'=g\/∀k,g'=some k->w.heap.size<=k):Off base g' w2 P:=fun w' jC=>h w' fun k h1 h2 h3=>by
 refine(jC k h1 Ua ?_).trans (hs k h1 h2 h3)
 rcases hg with rfl|hg
 ·exact h3
 ·intro he;have:=hg k he.symm;exact Ua
theorem Off.fresh {base base0:Nat} {g':Option Nat} {w w2:World} {P:World->Prop} (h:Off base0 none w P) (hb:base<=base0) (hs:∀k,base0<=k->k<w.heap.size->w2.heap[k]?=w.heap[k]?) (cE:w.heap.size<=w2.heap.size)
  (hg:∀k,g'=some k->k<base0\/w.heap.size<=k):Off base g' w2 P:=fun w' jC=>h w' fun k h1 h2 _=>by
 refine(jC k Ua Ua ?_).trans (hs k h1 h2);intro he;have:=hg k he.symm;omega
theorem Off.less {base base0:Nat} {g:Option Nat} {w:World} {P:World->Prop} (h:Off base0 g w P) (hb:base<=base0):Off base g w P:=fun w' jC=>h w' fun k h1 h2 h3=>jC k Ua h2 h3
theorem Off.later {base:Nat} {w w2:World} {P:World->Prop} (h:Off base none w P) (hb:Below w.heap.size w w2):Off base none w2 P:=
 h.grow (fun k _ hk _=>hb.block k hk) hb.size (.inl rfl)
theorem Off.map {base:Nat} {g:Option Nat} {w:World} {P R:World->Prop} (h:Off base g w P) (hpr:∀W,P W->R W):Off base g w R:=fun w' jC=>hpr _ (h w' jC)
section
variable {P:Program} {w:World}
theorem Jkl (base:Nat) (t ty e:TypeId) (z:Value) (size bytes:Nat) (ht:P.underlying t=some (.slice e)) (hi:(P.info? e).map (fun i=>(i.zero,i.size,i.bytes))=some (some z,size,bytes))
  (gH:z.cells.size=size) (cE:0<size) (v:Value) (n:Nat) (xs:List Value) (ae:w.ownsRow base e size v n xs) (ad:Addr) (m c:Nat) (news:List Value)
  (hl:news.length=m * size) (hj:∀j u,news[j]?=some u->w.cell? (ad.add j)=some u) (h1:∀u∈news,u.oneCell'=true) (hn:n+m<=100000000) (hb:bytes<=1000) (aK:base<=w.heap.size) :
  ∃v' w',(Builtin.append_ #[t,t] ty #[v,.slice (some ad) m c]).run P w = .ok v' w'/\w'.ownsRow base e size v' (n+m) (xs ++ news)/\w.grownBy w' v.ownBlock/\
   (v'.ownBlock=v.ownBlock\/∀k,v'.ownBlock=some k->w.heap.size<=k):=by
 obtain⟨i,kF,bD,af,br⟩:=info_parts hi;have iw:n+m<=maxLen:=U2;have cI:(n+m) * bytes<=140737488355328:=Nat.le_trans (Nat.mul_le_mul hn hb) Ua;obtain⟨v',w',hr,h2,h3,_⟩:=run_append_own (P:=P) w base t ty e i z size bytes ht kF bD af br gH cE v n xs ae ad m c news hl hj h1 iw cI aK;refine⟨v',w',hr,h2,h3,?_⟩
 rcases ae.2 with ⟨rfl,rfl⟩|⟨g,cap,cur,rfl,hbg,hg,xz,fG,dj,htake⟩
 ·have xB:w.ownsRow w.heap.size e size (.slice none 0 0) 0 xs:=⟨ae.1,.inl ⟨rfl,rfl⟩⟩;obtain⟨v2,w2,fa,h22,_,_⟩:=run_append_own (P:=P) w w.heap.size t ty e i z size bytes ht kF bD af br gH cE _ 0 xs xB ad m c news hl hj h1 iw cI (Ns _);have he:=hr.symm.trans fa;injection he with e1 e2;subst e1 e2;exact .inr fun k hk=>(h22.lt k hk).1
 ·by_cases xC:n+m<=cap
  ·obtain⟨w2,fa,_,_⟩:=run_append_fits (P:=P) w base t ty e i size ht kF af g n cap xs ae ad m c news hl hj h1 xC;have he:=hr.symm.trans fa;injection he with e1 e2;subst e1;exact .inl rfl
  ·have xD:∀j u,xs[j]?=some u->w.cell? ((⟨g,0,none⟩:Addr).add j)=some u:=ae.cells (g:=g) rfl;subst af;have fa:=run_append_grow (P:=P) w t ty e i z ht kF bD ⟨g,0,none⟩ n cap xs ae.1 xD ad m c news hl hj Ua Ua (by subst br;exact growslice_fits Ua cI);have he:=hr.symm.trans fa;injection he with e1 e2;subst e1;refine .inr fun k hk=>?_;simp [Value.ownBlock] at hk;omega
theorem Jvm (g j:Nat):(⟨g,0,none⟩:Addr).add j=⟨g,j,none⟩:=Lq
theorem Ji5 {o:Oper} {a:Act} {K:Act->World->Prop} {Q:Exit->Act->World->Prop} (s x:Operand) (t:TypeId)
  (ho:o.op = .call {callee:= .builtin .append,args:=#[s,x],argTypes:=#[t,t]})
  (base:Nat) (e:TypeId) (z:Value) (size bytes:Nat) (ht:P.underlying t=some (.slice e)) (hi:(P.info? e).map (fun i=>(i.zero,i.size,i.bytes))=some (some z,size,bytes))
  (gH:z.cells.size=size) (cE:0<size) (v:Value) (n:Nat) (xs:List Value) (g m c:Nat) (news:List Value) (hs:a.eval s=v) (ae:w.ownsRow base e size v n xs)
  (hx:a.eval x = .slice (some ⟨g,0,none⟩) m c) (hl:news.length=m * size) (hj:∀j u,news[j]?=some u->w.cell? ⟨g,j,none⟩=some u) (h1:∀u∈news,u.oneCell'=true) (hn:n+m<=100000000) (hb:bytes<=1000) (aK:base<=w.heap.size)
  (h:∀v' w',w'.ownsRow base e size v' (n+m) (xs ++ news)->w.grownBy w' v.ownBlock->(v'.ownBlock=v.ownBlock\/∀k,v'.ownBlock=some k->w.heap.size<=k)->K (a.put o.dst v') w'):o.wp P a w K Q:=by
 obtain⟨v',w',hr,h2,h3,h4⟩:=Jkl (P:=P) base t o.type e z size bytes ht hi gH cE v n xs ae ⟨g,0,none⟩ m c news hl (fun j u hu=>by rw [Jvm];exact hj j u hu) h1 hn hb aK;unfold Oper.wp execOp;simp only [ho,resolve,invoke,builtin,Sem.run_bind,Sem.run_pure,Result.andThen_ok,List.map_toArray,List.map_cons,List.map_nil,hs,hx,hr];exact h v' w' h2 h3 h4
theorem Z2 {ops:Array Oper} {rest:List Oper} {o:Oper} {a:Act} {Q:Exit->Act->World->Prop} (oL:o.guard=none) (s x:Operand) (t:TypeId)
  (ho:o.op = .call {callee:= .builtin .append,args:=#[s,x],argTypes:=#[t,t]})
  (base:Nat) (e:TypeId) (z:Value) (size bytes:Nat) (ht:P.underlying t=some (.slice e)) (hi:(P.info? e).map (fun i=>(i.zero,i.size,i.bytes))=some (some z,size,bytes))
  (gH:z.cells.size=size) (cE:0<size) (v:Value) (n:Nat) (xs:List Value) (g m c:Nat) (news:List Value) (hs:a.eval s=v) (ae:w.ownsRow base e size v n xs)
  (hx:a.eval x = .slice (some ⟨g,0,none⟩) m c) (hl:news.length=m * size) (hj:∀j u,news[j]?=some u->w.cell? ⟨g,j,none⟩=some u) (h1:∀u∈news,u.oneCell'=true) (hn:n+m<=100000000) (hb:bytes<=1000) (aK:base<=w.heap.size)
  (h:∀v' w',w'.ownsRow base e size v' (n+m) (xs ++ news)->w.grownBy w' v.ownBlock->(v'.ownBlock=v.ownBlock\/∀k,v'.ownBlock=some k->w.heap.size<=k)->wpList P ops Q rest (a.put o.dst v') w'):wpList P ops Q (o :: rest) a w:=
 wpList_plain oL fun _ hK=>Ji5 s x t ho base e z size bytes ht hi gH cE v n xs g m c news hs ae hx hl hj h1 hn hb aK fun v' w' h2 h3 h4=>hK _ _ (h v' w' h2 h3 h4)
end
def exC (x:Ex) (a:Option Addr×Nat):List Value:=[.int .i64 x.kind,.int .i32 x.n,.string x.name,.slice a.1 x.sub.length a.2]
def Ya:List Ex->List (Option Addr×Nat)->List Value
 | x :: l,a :: ls=>exC x a ++ Ya l ls
 | _,_=>[]
theorem Jih:∀(l:List Ex) (ls:List (Option Addr×Nat)) (x:Ex) (a:Option Addr×Nat),ls.length=l.length->Ya (l ++ [x]) (ls ++ [a])=Ya l ls ++ exC x a
 | [],[],x,a,_=>by simp [Ya]
 | y :: l,b :: ls,x,a,h=>by
  simp only [List.cons_append,Ya,List.append_assoc];rw [Jih l ls x a Ve]
 | [],b :: ls,x,a,h=>Lt
 | y :: l,[],x,a,h=>Lt
theorem Xv.of_cells {w:World} {b:Nat} : ∀(l:List Ex) (ls:List (Option Addr×Nat)) (off:Nat),ls.length=l.length->(∀j u,(Ya l ls)[j]?=some u->w.cell? ⟨b,off+j,none⟩=some u)->
  (∀(j:Nat) (x:Ex) (a:Option Addr×Nat),l[j]?=some x->ls[j]?=some a->Jt w x a.1 a.2)->Xv w b l off
 | [],_,off,_,_,_=>by simp [Xv]
 | y :: l,[],off,h,_,_=>Lt
 | y :: l,a :: ls,off,h,hc,hs=>by
  rw [Xv];refine⟨⟨a.1,a.2,?_,?_,?_,?_,hs 0 y a rfl rfl⟩,Xv.of_cells l ls (off+4) Ve ?_ ?_⟩
  ·exact hc 0 _ rfl
  ·exact hc 1 _ rfl
  ·exact hc 2 _ rfl
  ·exact hc 3 _ rfl
  ·intro j u hj;have:=hc (4+j) u (by rw [Ya,List.getElem?_append_right (by simp [exC])];simpa [exC] using hj)
   rwa [show off+4+j=off+(4+j) from by omega]
  ·intro j x a' h1 h2;exact hs (j+1) x a' Lw Lg
theorem Jr {w w':World} {a:Addr} {v:Value} (h:w'.heap[a.block]?=w.heap[a.block]?) (hc:w.cell? a=some v):w'.cell? a=some v:=by
 rw [World.cell?_of_block h];exact hc
theorem Jt.of_own {w:World} {base:Nat} {t:TypeId} {x:Ex} {v:Value} {ls:List (Option Addr×Nat)} (h:w.ownsRow base t 4 v x.sub.length (Ya x.sub ls)) (hl:ls.length=x.sub.length)
  (hs:∀(j:Nat) (y:Ex) (a:Option Addr×Nat),x.sub[j]?=some y->ls[j]?=some a->Off base v.ownBlock w (fun W=>Jt W y a.1 a.2)):∃A cap,v = .slice A x.sub.length cap/\Off base none w (fun W=>Jt W x A cap):=by
 rcases Nat.eq_zero_or_pos x.sub.length with h0|h0
 ·obtain⟨A,cap,rfl,h1,h2⟩:=Jv h;refine⟨A,cap,rfl,fun w' _=>?_⟩;show Jt w' x A cap;rw [Jao];exact⟨h1,h2,fun h=>absurd h Ua⟩
 ·obtain⟨g,cap,rfl,hg,am,h1,h2,hc⟩:=Kc h h0;refine⟨_,cap,rfl,fun w' jC=>?_⟩;show Jt w' x _ cap;rw [Jao];refine⟨h1,h2,fun _=>⟨g,0,rfl,Xv.of_cells _ ls 0 hl (fun j u hj=>?_) fun j y a hy ha=>hs j y a hy ha w' fun k k1 k2 _=>jC k k1 k2 Ul⟩⟩;rw [Nat.zero_add];exact Jr (jC g hg am Ul) (hc j u hj)
def eqC (q:Qe) (a:(Option Addr×Nat)×(Option Addr×Nat)):List Value:=
 [.string q.name,.int .i64 q.delay,.int .i64 q.first.kind,.int .i32 q.first.n,.string q.first.name,.slice a.1.1 q.first.sub.length a.1.2,.int .i64 q.e.kind,.int .i32 q.e.n,.string q.e.name,.slice a.2.1 q.e.sub.length a.2.2]
def Jed:List Qe->List ((Option Addr×Nat)×(Option Addr×Nat))->List Value
 | q :: l,a :: ls=>eqC q a ++ Jed l ls
 | _,_=>[]
theorem Jrk:∀(l:List Qe) (ls:List ((Option Addr×Nat)×(Option Addr×Nat))) (k:Nat) (q:Qe) (a:(Option Addr×Nat)×(Option Addr×Nat)),l[k]?=some q->ls[k]?=some a->∀(i:Nat) (u:Value),(eqC q a)[i]?=some u->(Jed l ls)[k * 10+i]?=some u
 | [],_,k,q,a,h,_,_,_,_=>Lt
 | y :: l,[],k,q,a,_,h,_,_,_=>Lt
 | y :: l,b :: ls,0,q,a,h1,h2,i,u,hu=>by
  simp at h1 h2;subst h1 h2;have hi:i<(eqC y b).length:=(Nh hu).1;rw [Jed,Nat.zero_mul,Nat.zero_add,List.getElem?_append_left hi];exact hu
 | y :: l,b :: ls,k+1,q,a,h1,h2,i,u,hu=>by
  have ai:(eqC y b).length=10:=rfl;rw [Jed,List.getElem?_append_right (by rw [ai];omega),ai,show(k+1) * 10+i-10=k * 10+i from by omega];exact Jrk l ls k q a Lw Lg i u hu
theorem Jap.of_own {w:World} {base:Nat} {t:TypeId} {l:List Qe} {v:Value} {ls:List ((Option Addr×Nat)×(Option Addr×Nat))} (h:w.ownsRow base t 10 v l.length (Jed l ls)) (hl:ls.length=l.length)
  (hs:∀(j:Nat) (q:Qe) (a:(Option Addr×Nat)×(Option Addr×Nat)),l[j]?=some q->ls[j]?=some a->Off base v.ownBlock w (fun W=>Jt W q.first a.1.1 a.1.2/\Jt W q.e a.2.1 a.2.2)):∃A cap,v = .slice A l.length cap/\Off base none w (fun W=>Jap W l A cap):=by
 rcases Nat.eq_zero_or_pos l.length with h0|h0
 ·obtain⟨A,cap,rfl,h1,h2⟩:=Jv h;exact⟨A,cap,rfl,fun w' _=>⟨h1,h2,fun h=>absurd h Ua⟩⟩
 ·obtain⟨g,cap,rfl,hg,am,h1,h2,hc⟩:=Kc h h0;refine⟨_,cap,rfl,fun w' jC=>⟨h1,h2,fun _=>⟨g,0,rfl,fun k q hk=>?_⟩⟩⟩;have hka:k<ls.length:=by rw [hl];exact(Nh hk).1
  have ha:ls[k]?=some ls[k]:=Ng hka;generalize ls[k]=a at ha;have cB:=fun i u hu=>Jr (jC g hg am Ul) (hc _ _ (Jrk l ls k q a hk ha i u hu));rw [Nat.zero_add];have aT:=hs k q a hk ha w' fun k k1 k2 _=>jC k k1 k2 Ul;exact⟨a.1.1,a.1.2,a.2.1,a.2.2,⟨cB 0 _ rfl,cB 1 _ rfl,cB 2 _ rfl,cB 3 _ rfl,cB 4 _ rfl,cB 5 _ rfl,cB 6 _ rfl,cB 7 _ rfl,cB 8 _ rfl,cB 9 _ rfl,aT.1,aT.2⟩⟩
theorem Ju.off_own {w:World} {base:Nat} {e:TypeId} {l:List Va} {v:Value} (h:w.ownsRow base e 4 v l.length (Xe l)):∃A cap,v = .slice A l.length cap/\Off base none w (fun W=>Ju W l A cap):=by
 obtain⟨A,cap,rfl,h1,h2⟩:=Jv h;refine⟨A,cap,rfl,fun w' jC=>?_⟩
 rcases Nat.eq_zero_or_pos l.length with h0|h0
 ·exact⟨h1,h2,fun hl=>absurd hl Ua⟩
 ·obtain⟨g,c',hv,hg,am,h1,h2,hc⟩:=Kc h h0;injection hv with e1 e2 e3;subst e1 e3;refine⟨h1,h2,fun _=>⟨g,0,rfl,fun k v hk=>?_⟩⟩;have ha:=fun i u hu=>Jr (jC g hg am Ul) (hc _ _ (Jrh l k v hk i u hu));rw [Nat.zero_add];exact⟨ha 0 _ rfl,ha 1 _ rfl,ha 2 _ rfl,ha 3 _ rfl⟩
theorem Ju.off_own' {w:World} {base:Nat} {e:TypeId} {l:List Va} {A:Option Addr} {cap:Nat} (h:w.ownsRow base e 4 (.slice A l.length cap) l.length (Xe l)):Off base none w (fun W=>Ju W l A cap):=by
 obtain⟨A',cap',hv,ho⟩:=Ju.off_own h;injection hv with e1 e2 e3;subst e1 e3;exact ho
theorem Qo {w:World} {c:Array Value} {t:TypeId} {g j:Nat} (hg:g=w.heap.size):(w.alloc (.cells c t)).cell? ⟨g,j,none⟩=c[j]?:=by subst hg;exact Kw w c t j
theorem Kn {B n size z:Nat} {t:TypeId} {w:World} {v:Value} {xs:List Value} (ae:w.ownsRow B t size v n xs) (hz:∀b,v.ownBlock=some b->b≠z) (o:Nat) (u:Value):(w.setCell ⟨z,o,none⟩ u).ownsRow B t size v n xs:=
 ae.kept (row:=some z) ⟨rfl,rfl,rfl,Ul,fun k _ hk=>heap_setCell_other w ⟨z,o,none⟩ k u (fun e=>hk (by rw [e]))⟩ (by
  cases hb:v.ownBlock with
  | none=>exact .inl rfl
  | some b=>
   right
   intro he;injection he with he;exact hz b hb he)
theorem K8 {w:World} {B B' n size:Nat} {t:TypeId} {v:Value} {xs:List Value} (h:w.ownsRow B t size v n xs) (hb:B'<=B):w.ownsRow B' t size v n xs:=by
 refine⟨h.1,?_⟩
 rcases h.2 with h2|⟨g,cap',cur,hv,hg,r⟩
 ·exact .inl h2
 ·exact .inr ⟨g,cap',cur,hv,Ua,r⟩
theorem Jbd {B n size z:Nat} {t:TypeId} {w:World} {v:Value} {xs:List Value} (ae:w.ownsRow B t size v n xs) (hz:z<B) (o:Nat) (u:Value):(w.setCell ⟨z,o,none⟩ u).ownsRow B t size v n xs:=
 ae.kept (row:=some z) ⟨rfl,rfl,rfl,Ul,fun k _ hk=>heap_setCell_other w ⟨z,o,none⟩ k u (fun e=>hk (by rw [e]))⟩ (by
  cases hb:v.ownBlock with
  | none=>exact .inl rfl
  | some b=>
   right
   intro he;have:=(ae.lt b hb).1;injection he with he;omega)
theorem J2 {z:Nat} {w w1 w3:World} {row:Option Nat} (h:Below z w w1) (hg:w1.grownBy w3 row) (ay:∀b,row=some b->z<=b) (hz:z<=w1.heap.size):Below z w w3:=
 ⟨hg.os.trans h.os,hg.tape.trans h.tape,hg.output.trans h.output,Nat.le_trans h.size hg.size,fun k hk=>(hg.block k Ua (fun he=>by have:=ay k he.symm;omega)).trans (h.block k hk)⟩
theorem Jii {B n size:Nat} {t:TypeId} {wr w1 w3:World} {v:Value} {xs:List Value} (ae:wr.ownsRow B t size v n xs) (hB:B<=wr.heap.size) (ac:Below wr.heap.size wr w1) (hg:w1.grownBy w3 v.ownBlock):∀k,k<B->w3.heap[k]?=wr.heap[k]?:=fun k hk=>by
 have:=ac.size;refine(hg.block k Ua fun he=>?_).trans (ac.block k Ua);have:=(ae.lt k he.symm).1;exact Ua
theorem Jpq (W:World) (b:Nat) (d:UInt8) (c:Nat) (h:W.cell? ⟨b,0,none⟩=some (.int .u8 d.toNat)) :
  (convert 98 9 (.slice (some ⟨b,0,none⟩) 1 c)).run Tryz.prog W = .ok (.string ⟨#[d]⟩) W:=by
 rw [run_convert_bytes_string _ _ _ _ _ _ _ Tryz.underlying98 Tryz.underlying5 Tryz.underlying9]
 have oQ:(loadCells ⟨b,0,none⟩ 1).run Tryz.prog W = .ok (([d].map fun c:UInt8=>(c.toNat:Int)).map (Value.int .u8)).toArray W:=by
  have:=run_loadCells_list (P:=Tryz.prog) W ⟨b,0,none⟩ (([d].map fun c:UInt8=>(c.toNat:Int)).map (Value.int .u8)) (fun j v hj=>by
   have cQ:(⟨b,0,none⟩:Addr).add j=⟨b,0+j,none⟩:=Lq;rw [cQ]
   match j with
   | 0=>simp at hj;subst hj;exact h
   | j+1=>simp at hj)
  simpa using this
 rw [run_bytesToString _ _ _ _ _ oQ,Jlh];simp
theorem Jl1 (d:UInt8) (ds:List UInt8):(⟨#[d]⟩ ++ ⟨ds.toArray⟩:ByteArray)=⟨(d :: ds).toArray⟩:=by
 ext1;simp
theorem Jth (a:Int) (w:World) (h1 : -2147483648<=a) (h2:a<=2147483647):Calls Tryz.prog 172 #[.int .i32 a] w fun r w'=>r = .returned (.int .i64 (a.natAbs:Nat))/\w=w':=by
 by_cases h:a<0
 ·go_enter Tryz.func172,Tryz.ntmps172
  go_wp2_with fail
  go_ret;exact⟨Jm Ua,rfl⟩
 ·go_enter Tryz.func172,Tryz.ntmps172
  go_wp2_with fail
  go_ret;exact⟨Jm Ua,rfl⟩
theorem Jn0 (a:Int) (w:World) (h1 : -2147483648<=a) (h2:a<=2147483647) :
  Calls Tryz.prog 157 #[.int .i32 a] w fun r w'=>r = .returned (.string (Zn a))/\Below w.heap.size w w':=by
 have cE:=fun W=>Jth a W h1 h2;have hna:a.natAbs<10 ^ 10:=Ua
 have bH:a<0/\Zn a=⟨#[45]⟩ ++ ⟨(Jb7 10 a.natAbs []).toArray⟩\/¬a<0/\Zn a=⟨(Jb7 10 a.natAbs []).toArray⟩:=by
  unfold Zn Jgk
  by_cases h:a<0
  ·left;rw [if_pos h,Jl1];exact⟨h,rfl⟩
  ·right;rw [if_neg h];exact⟨h,rfl⟩
 have HF:=Nf bH;clear bH;have HNA:=Nf hna;clear hna
 go_enter Tryz.func157,Tryz.ntmps157
 go_wp2_with (go_at_call 172;refine(cE _).mono ?_;rintro r w1 ⟨rfl,rfl⟩)
 go_loopw [3,4] (fun n s wr=>∃(m f:Nat) (ds:List UInt8),n = .int .i64 m/\s = .string ⟨ds.toArray⟩/\f+1+ds.length=10/\m<10 ^ (f+1)/\Jb7 (f+1) m ds=Jb7 10 a.natAbs []/\Below w.heap.size w wr) (fun n _ _=>(intOf n).toNat)
 case atStart=>exact⟨a.natAbs,9,[],rfl,rfl,Ul,HNA.out,rfl,Jb⟩
 case round=>
  obtain⟨m,f,ds,rfl,rfl,hf,hm,aa,ab⟩:=hrel
  have xG:m<=10000000000:=by
   have:=Nat.pow_le_pow_right (n:=10) Ua (show f+1<=10 by omega);exact Ua
  have ek:ds.length<=10:=Ua;rw [Jb7] at aa
  by_cases hgt:9<m
  ·have lA:¬m / 10=0:=Ua;rw [if_neg lA] at aa
   obtain⟨g,rfl⟩:∃g,f=g+1:=⟨f-1,by
    rcases Nat.eq_zero_or_pos f with h0|h0
    ·subst h0;simp at hm;omega
    ·omega⟩
   have cI:m / 10<10 ^ (g+1):=D9
   have ky:=Jpq (wr.alloc (.cells #[.int .u8 (48+(m:Int) % 10)] 5)) wr.heap.size (UInt8.ofNat (48+m % 10)) 1 (by
    rw [cell_of_row _ _ _ _ _ _ (heap_alloc_new wr _)]
    have:((UInt8.ofNat (48+m % 10)).toNat:Int)=48+(m:Int) % 10:=by
     have h:(UInt8.ofNat (48+m % 10)).toNat=48+m % 10:=Jn5 _ Ua;exact Ua
    rw [this];rfl)
   have ra:=Jl1 (UInt8.ofNat (48+m % 10)) ds;generalize UInt8.ofNat (48+m % 10)=d at ky ra aa;have HAP:=Nf ra;clear ra;have HR:=Nf aa;clear aa;have HM:=Nf cI;clear cI hm lA
   go_wp2_with fail
   go_roundw
   case rel=>exact⟨m / 10,g,d :: ds,Up,by rw [<-HAP.out],Uj,HM.out,HR.out,Jb⟩
   case measure=>simp [intOf];omega
  ·have lA:m / 10=0:=Ua;rw [if_pos lA,show m % 10=m from by omega] at aa
   have ky:=Jpq (wr.alloc (.cells #[.int .u8 (48+(m:Int))] 5)) wr.heap.size (UInt8.ofNat (48+m)) 1 (by
    rw [cell_of_row _ _ _ _ _ _ (heap_alloc_new wr _)]
    have:((UInt8.ofNat (48+m)).toNat:Int)=48+(m:Int):=by
     have h:(UInt8.ofNat (48+m)).toNat=48+m:=Jn5 _ Ua;exact Ua
    rw [this];rfl)
   have ra:=Jl1 (UInt8.ofNat (48+m)) ds;generalize UInt8.ofNat (48+m)=d at ky ra aa;have HAP:=Nf ra;clear ra;have HR:=Nf aa;clear aa lA hm
   rcases HF.out with ⟨hneg,hv⟩|⟨hneg,hv⟩
   ·exact Ucq
   ·exact Ucq
def Jd4 (k:Int):Bool:=k == 1 || k == 2 || k == 4 || k == 5
theorem Yf (k:Int) (w:World):Calls Tryz.prog 175 #[.int .i64 k] w fun r w'=>r = .returned (.bool (Jd4 k))/\w=w':=by
 have hv:Jd4 k=(k == 1 || k == 2 || k == 4 || k == 5):=rfl
 cases h1:(k == 1) <;> cases h2:(k == 2) <;> cases h4:(k == 4) <;> cases h5:(k == 5) <;>
 ·rw [h1,h2,h4,h5] at hv;have HV:=Nf hv;clear hv
  go_enter Tryz.func175,Tryz.ntmps175
  go_wp2_with fail
  go_ret;exact⟨Jk HV.out.symm,rfl⟩
theorem Ja2 {s:ByteArray} (h:s.toList.isEmpty=true):Kz s=false:=by
 cases hn:Kz s with
 | false=>rfl
 | true=>rw [Jbx hn] at h;cases h
theorem Jyz (e:Ex) (A:Option Addr) (cap:Nat) (w:World) (bg:I32 e.n) (hk:e.kind=1) :
  Calls Tryz.prog 161 #[exV e A cap] w fun r w'=>r = .returned (.bool (Jl e.kind e.n e.name e.sub.length))/\Below w.heap.size w w':=by
 unfold I32 at bg;obtain⟨eR,eu⟩:=bg;have aL:=fun W=>Xt e.name W;have cp:=fun W=>Yf e.kind W;have jq:Jd4 e.kind=true:=Ud;rw [jq] at cp;have t1:(e.kind == 1)=true:=Ud
 by_cases hl:e.sub.length=0
 ·have l1:((e.sub.length:Int) == 0)=true:=Dd
  by_cases h:0<=e.n
  ·have s1:decide (0<=e.n)=true:=Ve
   cases hs:e.name.toList.isEmpty
   ·exact Ufl
   ·have bC:=Ja2 hs;have bd:e.name.toList = []:=Mx;have hv:Jl e.kind e.n e.name e.sub.length=true:=by unfold Jl Jw;rw [hk];simp [hl,bC,bd,h,eu,Int.not_lt.2 h,Int.not_lt.2 eu]
    exact Ufp
  ·have s1:decide (0<=e.n)=false:=Ve;have hv:Jl e.kind e.n e.name e.sub.length=false:=My;exact Ufp
 ·exact Ufg
theorem Jym (e:Ex) (A:Option Addr) (cap:Nat) (w:World) (bg:I32 e.n) (hk:e.kind=2) :
  Calls Tryz.prog 161 #[exV e A cap] w fun r w'=>r = .returned (.bool (Jl e.kind e.n e.name e.sub.length))/\Below w.heap.size w w':=by
 unfold I32 at bg;obtain⟨eR,eu⟩:=bg;have aL:=fun W=>Xt e.name W;have cp:=fun W=>Yf e.kind W;have jq:Jd4 e.kind=true:=Ud;rw [jq] at cp;have t1:(e.kind == 1)=false:=Ud;have t2:(e.kind == 2)=true:=Ud
 by_cases hl:e.sub.length=0
 ·have l1:((e.sub.length:Int) == 0)=true:=Dd
  by_cases h:e.n=0
  ·have s1:(e.n == 0)=true:=Sl
   cases hs:e.name.toList.isEmpty
   ·exact Ufl
   ·have bC:=Ja2 hs;have bd:e.name.toList = []:=Mx;have hv:Jl e.kind e.n e.name e.sub.length=true:=G3;exact Ufp
  ·have s1:(e.n == 0)=false:=Ve
   by_cases h2:e.n=1
   ·have s2:(e.n == 1)=true:=by rw [h2];rfl
    cases hs:e.name.toList.isEmpty
    ·exact Ufl
    ·have bC:=Ja2 hs;have bd:e.name.toList = []:=Mx;have hv:Jl e.kind e.n e.name e.sub.length=true:=by unfold Jl Jw;rw [hk];simp [hl,bC,bd,h2]
     exact Ufp
   ·have s2:(e.n == 1)=false:=Lg;have h3:e.n<0\/1<e.n:=Ua
    rcases h3 with h3|h3
    ·have hv:Jl e.kind e.n e.name e.sub.length=false:=Vj;exact Ufp
    ·have hv:Jl e.kind e.n e.name e.sub.length=false:=Vj;exact Ufp
 ·exact Ufg
theorem Jye (e:Ex) (A:Option Addr) (cap:Nat) (w:World) (bg:I32 e.n) (hk:e.kind=3) :
  Calls Tryz.prog 161 #[exV e A cap] w fun r w'=>r = .returned (.bool (Jl e.kind e.n e.name e.sub.length))/\Below w.heap.size w w':=by
 unfold I32 at bg;obtain⟨eR,eu⟩:=bg;have aL:=fun W=>Xt e.name W;have cp:=fun W=>Yf e.kind W;have jq:Jd4 e.kind=false:=Ud;rw [jq] at cp;have t1:(e.kind == 1)=false:=Ud;have t2:(e.kind == 2)=false:=Ud;have t3:(e.kind == 3)=true:=Ud
 by_cases hl:e.sub.length=0
 ·have l1:((e.sub.length:Int) == 0)=true:=Dd;exact Uab
 ·exact Ufg
theorem Jx6 (e:Ex) (A:Option Addr) (cap:Nat) (w:World) (bg:I32 e.n) (hk:e.kind=4) :
  Calls Tryz.prog 161 #[exV e A cap] w fun r w'=>r = .returned (.bool (Jl e.kind e.n e.name e.sub.length))/\Below w.heap.size w w':=by
 unfold I32 at bg;obtain⟨eR,eu⟩:=bg;have aL:=fun W=>Xt e.name W;have cp:=fun W=>Yf e.kind W;have jq:Jd4 e.kind=true:=Ud;rw [jq] at cp;have t1:(e.kind == 1)=false:=Ud;have t2:(e.kind == 2)=false:=Ud;have t3:(e.kind == 3)=false:=Ud;have t4:(e.kind == 4)=true:=Ud
 by_cases hl:e.sub.length=1
 ·have l1:((e.sub.length:Int) == 1)=true:=Dd
  by_cases h:1<=e.n
  ·have s1:decide (1<=e.n)=true:=Ve
   by_cases h2:e.n<=2
   ·have s2:decide (e.n<=2)=true:=Lg;exact Uas
   ·have s2:decide (e.n<=2)=false:=Lg;exact Ufj
  ·exact Ufk
 ·exact Ufh
theorem Jys (e:Ex) (A:Option Addr) (cap:Nat) (w:World) (bg:I32 e.n) (hk:e.kind=5) :
  Calls Tryz.prog 161 #[exV e A cap] w fun r w'=>r = .returned (.bool (Jl e.kind e.n e.name e.sub.length))/\Below w.heap.size w w':=by
 unfold I32 at bg;obtain⟨eR,eu⟩:=bg;have aL:=fun W=>Xt e.name W;have cp:=fun W=>Yf e.kind W;have jq:Jd4 e.kind=true:=Ud;rw [jq] at cp;have t1:(e.kind == 1)=false:=Ud;have t2:(e.kind == 2)=false:=Ud;have t3:(e.kind == 3)=false:=Ud;have t4:(e.kind == 4)=false:=Ud;have t5:(e.kind == 5)=true:=Ud
 by_cases hl:e.sub.length=2
 ·have l1:((e.sub.length:Int) == 2)=true:=Dd
  by_cases h:1<=e.n
  ·have s1:decide (1<=e.n)=true:=Ve
   by_cases h2:e.n<=16
   ·have s2:decide (e.n<=16)=true:=Lg;exact Uas
   ·have s2:decide (e.n<=16)=false:=Lg;exact Ufj
  ·exact Ufk
 ·exact Ufi
theorem Jyo (e:Ex) (A:Option Addr) (cap:Nat) (w:World) (bg:I32 e.n) (hk:e.kind=6) :
  Calls Tryz.prog 161 #[exV e A cap] w fun r w'=>r = .returned (.bool (Jl e.kind e.n e.name e.sub.length))/\Below w.heap.size w w':=by
 unfold I32 at bg;obtain⟨eR,eu⟩:=bg;have aL:=fun W=>Xt e.name W;have cp:=fun W=>Yf e.kind W;have jq:Jd4 e.kind=false:=Ud;rw [jq] at cp;have t1:(e.kind == 1)=false:=Ud;have t2:(e.kind == 2)=false:=Ud;have t3:(e.kind == 3)=false:=Ud;have t4:(e.kind == 4)=false:=Ud;have t5:(e.kind == 5)=false:=Ud;have t6:(e.kind == 6)=true:=Ud
 by_cases hl:e.sub.length=3
 ·have l1:((e.sub.length:Int) == 3)=true:=Dd;exact B4
 ·have l1:((e.sub.length:Int) == 3)=false:=Lb;have aD:¬(e.sub.length:Int)=3:=Ua;have hv:Jl e.kind e.n e.name e.sub.length=false:=Vt;exact Ufp
theorem Jyn (e:Ex) (A:Option Addr) (cap:Nat) (w:World) (bg:I32 e.n) (hk:e.kind=7) :
  Calls Tryz.prog 161 #[exV e A cap] w fun r w'=>r = .returned (.bool (Jl e.kind e.n e.name e.sub.length))/\Below w.heap.size w w':=by
 unfold I32 at bg;obtain⟨eR,eu⟩:=bg;have aL:=fun W=>Xt e.name W;have cp:=fun W=>Yf e.kind W;have jq:Jd4 e.kind=false:=Ud;rw [jq] at cp;have t1:(e.kind == 1)=false:=Ud;have t2:(e.kind == 2)=false:=Ud;have t3:(e.kind == 3)=false:=Ud;have t4:(e.kind == 4)=false:=Ud;have t5:(e.kind == 5)=false:=Ud;have t6:(e.kind == 6)=false:=Ud;have t7:(e.kind == 7)=true:=Ud
 by_cases hl:e.sub.length=2
 ·have l1:((e.sub.length:Int) == 2)=true:=Dd;exact B4
 ·exact Ufi
theorem Jx8 (e:Ex) (A:Option Addr) (cap:Nat) (w:World) (bg:I32 e.n) (hk:e.kind=8) :
  Calls Tryz.prog 161 #[exV e A cap] w fun r w'=>r = .returned (.bool (Jl e.kind e.n e.name e.sub.length))/\Below w.heap.size w w':=by
 unfold I32 at bg;obtain⟨eR,eu⟩:=bg;have aL:=fun W=>Xt e.name W;have cp:=fun W=>Yf e.kind W;have jq:Jd4 e.kind=false:=Ud;rw [jq] at cp;have t1:(e.kind == 1)=false:=Ud;have t2:(e.kind == 2)=false:=Ud;have t3:(e.kind == 3)=false:=Ud;have t4:(e.kind == 4)=false:=Ud;have t5:(e.kind == 5)=false:=Ud;have t6:(e.kind == 6)=false:=Ud;have t7:(e.kind == 7)=false:=Ud;have t8:(e.kind == 8)=true:=Ud
 by_cases hl:e.sub.length=1
 ·exact B7
 ·exact Ufh
theorem Jyy (e:Ex) (A:Option Addr) (cap:Nat) (w:World) (bg:I32 e.n) (hk:e.kind=9) :
  Calls Tryz.prog 161 #[exV e A cap] w fun r w'=>r = .returned (.bool (Jl e.kind e.n e.name e.sub.length))/\Below w.heap.size w w':=by
 unfold I32 at bg;obtain⟨eR,eu⟩:=bg;have aL:=fun W=>Xt e.name W;have cp:=fun W=>Yf e.kind W;have jq:Jd4 e.kind=false:=Ud;rw [jq] at cp;have t1:(e.kind == 1)=false:=Ud;have t2:(e.kind == 2)=false:=Ud;have t3:(e.kind == 3)=false:=Ud;have t4:(e.kind == 4)=false:=Ud;have t5:(e.kind == 5)=false:=Ud;have t6:(e.kind == 6)=false:=Ud;have t7:(e.kind == 7)=false:=Ud;have t8:(e.kind == 8)=false:=Ud;have t9:(e.kind == 9)=true:=Ud
 by_cases hl:e.sub.length=1
 ·exact B7
 ·exact Ufh
theorem Jv7 (e:Ex) (A:Option Addr) (cap:Nat) (w:World) (bg:I32 e.n) (hk:e.kind=10) :
  Calls Tryz.prog 161 #[exV e A cap] w fun r w'=>r = .returned (.bool (Jl e.kind e.n e.name e.sub.length))/\Below w.heap.size w w':=by
 unfold I32 at bg;obtain⟨eR,eu⟩:=bg;have aL:=fun W=>Xt e.name W;have cp:=fun W=>Yf e.kind W;have jq:Jd4 e.kind=false:=Ud;rw [jq] at cp;have t1:(e.kind == 1)=false:=Ud;have t2:(e.kind == 2)=false:=Ud;have t3:(e.kind == 3)=false:=Ud;have t4:(e.kind == 4)=false:=Ud;have t5:(e.kind == 5)=false:=Ud;have t6:(e.kind == 6)=false:=Ud;have t7:(e.kind == 7)=false:=Ud;have t8:(e.kind == 8)=false:=Ud;have t9:(e.kind == 9)=false:=Ud;have t10:(e.kind == 10)=true:=Ud
 by_cases hl:e.sub.length=2
 ·have l1:((e.sub.length:Int) == 2)=true:=Dd;exact Uab
 ·exact Ufi
theorem Jst (e:Ex) (A:Option Addr) (cap:Nat) (w:World) (hk:∀k:Int,1<=k->k<=10->e.kind≠k) :
  Calls Tryz.prog 161 #[exV e A cap] w fun r w'=>r = .returned (.bool (Jl e.kind e.n e.name e.sub.length))/\Below w.heap.size w w':=by
 have t1:(e.kind == 1)=false:=by simpa using hk 1 Ua Ua
 have t2:(e.kind == 2)=false:=by simpa using hk 2 Ua Ua
 have t3:(e.kind == 3)=false:=by simpa using hk 3 Ua Ua
 have t4:(e.kind == 4)=false:=by simpa using hk 4 Ua Ua
 have t5:(e.kind == 5)=false:=by simpa using hk 5 Ua Ua
 have t6:(e.kind == 6)=false:=by simpa using hk 6 Ua Ua
 have t7:(e.kind == 7)=false:=by simpa using hk 7 Ua Ua
 have t8:(e.kind == 8)=false:=by simpa using hk 8 Ua Ua
 have t9:(e.kind == 9)=false:=by simpa using hk 9 Ua Ua
 have t10:(e.kind == 10)=false:=by simpa using hk 10 Ua Ua
 have hv:Jl e.kind e.n e.name e.sub.length=false:=by
  unfold Jl Jw;simp only [beq_eq_false_iff_ne] at t1 t2 t3 t4 t5 t6 t7 t8 t9 t10;simp [t1,t2,t3,t4,t5,t6,t7,t8,t9,t10]
 clear hk;have HV:=Nf hv;clear hv;unfold exV
 go_enter Tryz.func161,Tryz.ntmps161
 go_wp2_with fail
 go_ret;exact⟨Jk HV.out.symm,Jb⟩
theorem Jty (e:Ex) (A:Option Addr) (cap:Nat) (w:World) (bg:I32 e.n) :
  Calls Tryz.prog 161 #[exV e A cap] w fun r w'=>r = .returned (.bool (Jl e.kind e.n e.name e.sub.length))/\Below w.heap.size w w':=by
 by_cases h1:e.kind=1
 ·exact Jyz e A cap w bg h1
 by_cases h2:e.kind=2
 ·exact Jym e A cap w bg h2
 by_cases h3:e.kind=3
 ·exact Jye e A cap w bg h3
 by_cases h4:e.kind=4
 ·exact Jx6 e A cap w bg h4
 by_cases h5:e.kind=5
 ·exact Jys e A cap w bg h5
 by_cases h6:e.kind=6
 ·exact Jyo e A cap w bg h6
 by_cases h7:e.kind=7
 ·exact Jyn e A cap w bg h7
 by_cases h8:e.kind=8
 ·exact Jx8 e A cap w bg h8
 by_cases h9:e.kind=9
 ·exact Jyy e A cap w bg h9
 by_cases bM:e.kind=10
 ·exact Jv7 e A cap w bg bM
 exact Jst e A cap w fun k h1 h2=>Ua
end Go.Proofs.YtknfcamdfdfoeaaGreatDoor
