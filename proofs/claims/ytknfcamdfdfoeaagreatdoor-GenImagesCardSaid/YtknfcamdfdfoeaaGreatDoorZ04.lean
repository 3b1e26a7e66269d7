/- Lemmas. -/
import Derived.Test.YtknfcamdfdfoeaaGreatDoorMac
import Derived.Test.YtknfcamdfdfoeaaGreatDoorRows
import Derived.Test.YtknfcamdfdfoeaaGreatDoorZ00
import Derived.ProofKit
import Derived.Deep.Slices
import Derived.Deep.Fields
import Derived.Lib.SmallJoins
import Derived.Test.YtknfcamdfdfoeaaGreatDoorZ02
import Derived.Laws.RangeString
import Derived.Laws.RangeAny
import Derived.Test.YtknfcamdfdfoeaaGreatDoorZ03
set_option linter.unusedVariables false
set_option linter.unusedSimpArgs false
set_option maxRecDepth 100000
set_option maxHeartbeats 64000000
namespace Go.Proofs.YtknfcamdfdfoeaaGreatDoor
open Go.ChangeShapes Go.WideShapes Go.ChangeAt Go.RowKit Go.Deep
section
variable {H:Type} {enc:TypeId×Value->H} {w:World} {spare:Nat->Bool} {held:Bool}
theorem Ji2 {α:Type} (R:Nat->α->Prop):∀n,(∀i,i<n->∃x,R i x)->∃l:List α,l.length=n/\∀(k:Nat) (x:α),l[k]?=some x->R k x
 | 0,_=>⟨[],rfl,fun k x h=>Lt⟩
 | n+1,h=>by
  obtain⟨l,hl,hr⟩:=Ji2 R n fun i hi=>h i Ua;obtain⟨x,hx⟩:=h n Ua;refine⟨l ++ [x],by simp [hl],fun k y hk=>?_⟩
  by_cases xg:k<l.length
  ·rw [List.getElem?_append_left xg] at hk;exact hr k y hk
  ·rw [List.getElem?_append_right Ua] at hk
   have h0:k-l.length=0:=by
    rcases Nat.eq_zero_or_pos (k-l.length) with h|h
    ·exact h
    ·rw [List.getElem?_eq_none Uj] at hk;cases hk
   rw [h0] at hk;obtain rfl:x=y:=Vw;have:k=n:=Ua;rw [this];exact hx
theorem Jpe {b:Nat} : ∀(l:List Ex) (off:Nat),(∀(k:Nat) (x:Ex),l[k]?=some x->∃A cap,w.cell? ⟨b,off+k * 4,none⟩=some (.int .i64 x.kind)/\w.cell? ⟨b,off+k * 4+1,none⟩=some (.int .i32 x.n)/\w.cell? ⟨b,off+k * 4+2,none⟩=some (.string x.name)/\
   w.cell? ⟨b,off+k * 4+3,none⟩=some (.slice A x.sub.length cap)/\Jt w x A cap)->Xv w b l off
 | [],off,_=>by simp [Xv]
 | x :: l,off,h=>by
  rw [Xv];refine⟨?_,Jpe l (off+4) fun k y hk=>?_⟩
  ·simpa using h 0 x rfl
  ·have:=h (k+1) y Vw
   rwa [show off+(k+1) * 4=off+4+k * 4 from by omega] at this
theorem Jut:∀ {l:List Ex},(∀x∈l,Ex.OK x)->Ex.OKL l
 | [],_=>by simp [Ex.OKL]
 | x :: l,h=>by
  simp only [Ex.OKL];exact⟨h x Ul,Jut fun y hy=>h y F0⟩
theorem Jh5 {k:Int} (h:(Lit.int .i64 k).wf=true):I64 k:=by
 simp [Lit.wf,IntKind.min,IntKind.max,IntKind.signed,IntKind.bits] at h;unfold I64;omega
theorem Ju1 {k:Int} (h:(Lit.int .i32 k).wf=true):I32 k:=by
 simp [Lit.wf,IntKind.min,IntKind.max,IntKind.signed,IntKind.bits] at h;unfold I32;omega
theorem Jdi:Tryz.prog.cellsOf 3=1:=Ug
theorem Jrz:Tryz.prog.cellsOf 21=1:=Ug
theorem Ja1:Tryz.prog.cellsOf 9=1:=Ug
theorem Jeq:Tryz.prog.cellsOf 55=2:=Ug
theorem Jps:Tryz.prog.cellsOf 57=4:=Ug
theorem Jh9:Tryz.prog.cellsOf 22=1:=Ug
theorem Jfu:Tryz.prog.cellsOf 51=4:=Ug
theorem Jr1:Tryz.prog.cellsOf 49=1:=Ug
theorem Jq6:Tryz.prog.cellsOf 53=10:=Ug
theorem Jvw:Tryz.prog.cellsOf 23=1:=Ug
theorem Jp4:Tryz.prog.cellsOf 25=5:=Ug
theorem Jj8 {a:Addr} {n:Nat} {cs:List Value} (h:w.cells? 0 a n=some cs):cs.length=n/\∀j v,cs[j]?=some v->w.cell? (a.add j)=some v:=by
 obtain⟨_,hl,hc⟩:=World.cells?_some h;refine⟨hl,fun j v hj=>?_⟩;have am:j<n:=by rw [<-hl];exact(Nh hj).1
 rw [hc j am,hj]
theorem Jq9:∀(fuel:Nat) (cs:List Value) (x:DataW H×List MemPlace),DataW.trod enc Tryz.prog w 0 spare held fuel 51 cs=some x->
  ∃(e:Ex) (A:Option Addr) (cap:Nat),cs = [.int .i64 e.kind,.int .i32 e.n,.string e.name,.slice A e.sub.length cap]/\Jt w e A cap/\e.OK:=by
 intro fuel
 induction fuel using Nat.strongRecOn with
 | ind fuel ih=>
 intro cs x h;obtain⟨xs,n,rfl,hx,ai,lB,hg⟩:=DataW.trod_struct Tryz.underlying51 h;rw [Jfu] at ai
 match cs,ai,xs,lB with
 | [c0,c1,c2,c3],_,[y0,y1,y2,y3],_=>
  have g0:DataW.trod enc Tryz.prog w 0 spare held n 3 (([c0,c1,c2,c3].drop 0).take (Tryz.prog.cellsOf 3))=some y0:=hg 0 _ rfl;rw [Jdi] at g0;have g1:DataW.trod enc Tryz.prog w 0 spare held n 21 (([c0,c1,c2,c3].drop 1).take (Tryz.prog.cellsOf 21))=some y1:=hg 1 _ rfl;rw [Jrz] at g1;have g2:DataW.trod enc Tryz.prog w 0 spare held n 9 (([c0,c1,c2,c3].drop 2).take (Tryz.prog.cellsOf 9))=some y2:=hg 2 _ rfl;rw [Ja1] at g2;have g3:DataW.trod enc Tryz.prog w 0 spare held n 49 (([c0,c1,c2,c3].drop 3).take (Tryz.prog.cellsOf 49))=some y3:=hg 3 _ rfl;rw [Jr1] at g3;obtain⟨k,hk,_,wk⟩:=DataW.trod_int Tryz.underlying3 g0;obtain⟨m,hm,_,wm⟩:=DataW.trod_int Tryz.underlying21 g1;obtain⟨s,hs,_,ws⟩:=DataW.trod_string Tryz.underlying9 g2;simp at hk hm hs;subst hk hm hs
  rcases DataW.trod_slice Tryz.underlying49 g3 with ⟨hc,_⟩|⟨a,len,cap,elems,rest,n',wg,hc,_,_,hl,mH,ot,iD,_,_⟩
  ·simp at hc;subst hc;refine⟨.mk k m s [],none,0,rfl,?_,?_⟩
   ·rw [Jao];exact⟨Ns _,U2,fun h=>absurd h (by simp [Ex.sub])⟩
   ·simp only [Ex.OK,Ex.OKL];exact⟨Jh5 wk,Ju1 wm,ws,trivial⟩
  ·simp at hc;subst hc;rw [Jfu] at iD
   obtain⟨l,cY,hr⟩:=Ji2 (fun i (e:Ex)=>∃(A:Option Addr) (cap:Nat),w.cell? ((a.add (i * 4)).add 0)=some (.int .i64 e.kind)/\w.cell? ((a.add (i * 4)).add 1)=some (.int .i32 e.n)/\w.cell? ((a.add (i * 4)).add 2)=some (.string e.name)/\
     w.cell? ((a.add (i * 4)).add 3)=some (.slice A e.sub.length cap)/\Jt w e A cap/\e.OK) len (fun i hi=>by
    have:=iD i hi;rw [Ng Ua] at this;obtain⟨cs',h1,h2⟩:=Option.bind_eq_some_iff.1 this;obtain⟨e,A,cap',rfl,h3,h4⟩:=ih n' Ua cs' _ h2;obtain⟨_,aY⟩:=Jj8 h1;exact⟨e,A,cap',aY 0 _ rfl,aY 1 _ rfl,aY 2 _ rfl,aY 3 _ rfl,h3,h4⟩)
   refine⟨.mk k m s l,some a,cap,by simp [Ex.kind,Ex.n,Ex.name,Ex.sub,cY],?_,?_⟩
   ·rw [Jao];refine⟨by simp [Ex.sub];omega,mH,fun hp=>?_⟩;simp only [Ex.sub] at hp;obtain⟨b,off,spot⟩:=a
    have kA:spot=none:=by
     obtain⟨A,cap',h0,_⟩:=hr 0 l[0] (Ng hp);simpa [Addr.add] using World.cell?_spot h0
    subst kA;refine⟨b,off,rfl,Jpe _ _ fun k x hk=>?_⟩;obtain⟨A,cap',h0,h1,h2,h3,h4,_⟩:=hr k x (by simpa [Ex.sub] using hk);simp only [Go.WideShapes.add_plain] at h0 h1 h2 h3;exact⟨A,cap',h0,h1,h2,h3,h4⟩
   ·simp only [Ex.OK];refine⟨Jh5 wk,Ju1 wm,ws,Jut fun x hx=>?_⟩;obtain⟨i,hi⟩:=List.getElem?_of_mem hx;obtain⟨_,_,_,_,_,_,_,h⟩:=hr i x hi;exact h
def Jmh (v:Va):Prop:=v.name.size<=maxLen/\I64 v.type/\I64 v.ck/\v.cn.size<=maxLen
theorem Jx9 {fuel:Nat} {cs:List Value} {x:DataW H×List MemPlace} (h:DataW.trod enc Tryz.prog w 0 spare held fuel 57 cs=some x) :
  ∃v:Va,cs = [.string v.name,.int .i64 v.type,.int .i64 v.ck,.string v.cn]/\Jmh v:=by
 obtain⟨xs,n,rfl,hx,ai,lB,hg⟩:=DataW.trod_struct Tryz.underlying57 h;rw [Jps] at ai
 match cs,ai,xs,lB with
 | [c0,c1,c2,c3],_,[y0,y1,y2],_=>
  have g0:DataW.trod enc Tryz.prog w 0 spare held n 9 (([c0,c1,c2,c3].drop 0).take (Tryz.prog.cellsOf 9))=some y0:=hg 0 _ rfl;rw [Ja1] at g0;have g1:DataW.trod enc Tryz.prog w 0 spare held n 3 (([c0,c1,c2,c3].drop 1).take (Tryz.prog.cellsOf 3))=some y1:=hg 1 _ rfl;rw [Jdi] at g1;have g2:DataW.trod enc Tryz.prog w 0 spare held n 55 (([c0,c1,c2,c3].drop 2).take (Tryz.prog.cellsOf 55))=some y2:=hg 2 _ rfl;rw [Jeq] at g2;obtain⟨s,hs,_,ws⟩:=DataW.trod_string Tryz.underlying9 g0;obtain⟨k,hk,_,wk⟩:=DataW.trod_int Tryz.underlying3 g1;obtain⟨xs',n',rfl,_,_,hxl',hg'⟩:=DataW.trod_struct Tryz.underlying55 g2
  match xs',hxl' with
  | [z0,z1],_=>
   have k0:DataW.trod enc Tryz.prog w 0 spare held n' 3 (((([c0,c1,c2,c3].drop 2).take 2).drop 0).take (Tryz.prog.cellsOf 3))=some z0:=hg' 0 _ rfl;rw [Jdi] at k0;have k1:DataW.trod enc Tryz.prog w 0 spare held n' 9 (((([c0,c1,c2,c3].drop 2).take 2).drop 1).take (Tryz.prog.cellsOf 9))=some z1:=hg' 1 _ rfl;rw [Ja1] at k1;obtain⟨ck,aN,_,wck⟩:=DataW.trod_int Tryz.underlying3 k0;obtain⟨cn,qJ,_,wcn⟩:=DataW.trod_string Tryz.underlying9 k1;simp at hs hk aN qJ;subst hs hk aN qJ;exact⟨⟨s,k,ck,cn⟩,rfl,ws,Jh5 wk,Jh5 wck,wcn⟩
theorem Jh4 {fuel:Nat} {cs:List Value} {x:DataW H×List MemPlace} (h:DataW.trod enc Tryz.prog w 0 spare held fuel 22 cs=some x) :
  ∃(l:List Va) (A:Option Addr) (cap:Nat),cs = [.slice A l.length cap]/\Ju w l A cap/\∀v∈l,Jmh v:=by
 rcases DataW.trod_slice Tryz.underlying22 h with ⟨rfl,_⟩|⟨a,len,cap,elems,rest,n',wg,rfl,_,_,hl,mH,ot,iD,_,_⟩
 ·exact⟨[],none,0,rfl,⟨Ns _,U2,fun h=>absurd h Ul⟩,Ul⟩
 ·rw [Jps] at iD
  obtain⟨l,cY,hr⟩:=Ji2 (fun i (v:Va)=>w.cell? ((a.add (i * 4)).add 0)=some (.string v.name)/\w.cell? ((a.add (i * 4)).add 1)=some (.int .i64 v.type)/\w.cell? ((a.add (i * 4)).add 2)=some (.int .i64 v.ck)/\
    w.cell? ((a.add (i * 4)).add 3)=some (.string v.cn)/\Jmh v) len (fun i hi=>by
   have:=iD i hi;rw [Ng Ua] at this;obtain⟨cs',h1,h2⟩:=Option.bind_eq_some_iff.1 this;obtain⟨v,rfl,h3⟩:=Jx9 h2;obtain⟨_,aY⟩:=Jj8 h1;exact⟨v,aY 0 _ rfl,aY 1 _ rfl,aY 2 _ rfl,aY 3 _ rfl,h3⟩)
  refine⟨l,some a,cap,by rw [cY],⟨Ua,mH,fun hp=>?_⟩,fun v hv=>?_⟩
  ·obtain⟨b,off,spot⟩:=a
   have kA:spot=none:=by
    obtain⟨h0,_⟩:=hr 0 l[0] (Ng hp);simpa [Addr.add] using World.cell?_spot h0
   subst kA;refine⟨b,off,rfl,fun k x hk=>?_⟩;obtain⟨h0,h1,h2,h3,_⟩:=hr k x hk;simp only [Go.WideShapes.add_plain] at h0 h1 h2 h3;exact⟨h0,h1,h2,h3⟩
  ·obtain⟨i,hi⟩:=List.getElem?_of_mem hv;exact(hr i v hi).2.2.2.2
def Jtj (q:Qe):Prop:=q.name.size<=maxLen/\I64 q.delay/\q.first.OK/\q.e.OK
theorem Jxq {fuel:Nat} {cs:List Value} {x:DataW H×List MemPlace} (h:DataW.trod enc Tryz.prog w 0 spare held fuel 53 cs=some x) :
  ∃(q:Qe) (A1:Option Addr) (c1:Nat) (A2:Option Addr) (c2:Nat),cs = [.string q.name,.int .i64 q.delay,.int .i64 q.first.kind,.int .i32 q.first.n,.string q.first.name,.slice A1 q.first.sub.length c1,.int .i64 q.e.kind,.int .i32 q.e.n,.string q.e.name,.slice A2 q.e.sub.length c2]/\
   Jt w q.first A1 c1/\Jt w q.e A2 c2/\Jtj q:=by
 obtain⟨xs,n,rfl,hx,ai,lB,hg⟩:=DataW.trod_struct Tryz.underlying53 h;rw [Jq6] at ai
 match cs,ai,xs,lB with
 | [c0,c1,c2,c3,c4,c5,c6,c7,c8,c9],_,[y0,y1,y2,y3],_=>
  have g0:DataW.trod enc Tryz.prog w 0 spare held n 9 (([c0,c1,c2,c3,c4,c5,c6,c7,c8,c9].drop 0).take (Tryz.prog.cellsOf 9))=some y0:=hg 0 _ rfl;rw [Ja1] at g0;have g1:DataW.trod enc Tryz.prog w 0 spare held n 3 (([c0,c1,c2,c3,c4,c5,c6,c7,c8,c9].drop 1).take (Tryz.prog.cellsOf 3))=some y1:=hg 1 _ rfl;rw [Jdi] at g1;have g2:DataW.trod enc Tryz.prog w 0 spare held n 51 (([c0,c1,c2,c3,c4,c5,c6,c7,c8,c9].drop 2).take (Tryz.prog.cellsOf 51))=some y2:=hg 2 _ rfl;rw [Jfu] at g2;have g3:DataW.trod enc Tryz.prog w 0 spare held n 51 (([c0,c1,c2,c3,c4,c5,c6,c7,c8,c9].drop 6).take (Tryz.prog.cellsOf 51))=some y3:=hg 3 _ rfl;rw [Jfu] at g3;obtain⟨s,hs,_,ws⟩:=DataW.trod_string Tryz.underlying9 g0;obtain⟨k,hk,_,wk⟩:=DataW.trod_int Tryz.underlying3 g1;obtain⟨e1,A1,k1,he1,bC,ln⟩:=Jq9 _ _ _ g2;obtain⟨e2,A2,k2,he2,bd,jm⟩:=Jq9 _ _ _ g3;simp at hs hk he1 he2;obtain⟨rfl,rfl,rfl,rfl⟩:=he1;obtain⟨rfl,rfl,rfl,rfl⟩:=he2;subst hs hk;exact⟨⟨s,k,e1,e2⟩,A1,k1,A2,k2,rfl,bC,bd,ws,Jh5 wk,ln,jm⟩
theorem Jwa {fuel:Nat} {cs:List Value} {x:DataW H×List MemPlace} (h:DataW.trod enc Tryz.prog w 0 spare held fuel 23 cs=some x) :
  ∃(l:List Qe) (A:Option Addr) (cap:Nat),cs = [.slice A l.length cap]/\Jap w l A cap/\∀q∈l,Jtj q:=by
 rcases DataW.trod_slice Tryz.underlying23 h with ⟨rfl,_⟩|⟨a,len,cap,elems,rest,n',wg,rfl,_,_,hl,mH,ot,iD,_,_⟩
 ·exact⟨[],none,0,rfl,⟨Ns _,U2,fun h=>absurd h Ul⟩,Ul⟩
 ·rw [Jq6] at iD
  obtain⟨l,cY,hr⟩:=Ji2 (fun i (q:Qe)=>∃(A1:Option Addr) (c1:Nat) (A2:Option Addr) (c2:Nat),(∀j v,[.string q.name,.int .i64 q.delay,.int .i64 q.first.kind,.int .i32 q.first.n,.string q.first.name,.slice A1 q.first.sub.length c1,.int .i64 q.e.kind,.int .i32 q.e.n,.string q.e.name,Value.slice A2 q.e.sub.length c2][j]?=some v->w.cell? ((a.add (i * 10)).add j)=some v)/\
    Jt w q.first A1 c1/\Jt w q.e A2 c2/\Jtj q) len (fun i hi=>by
   have:=iD i hi;rw [Ng Ua] at this;obtain⟨cs',h1,h2⟩:=Option.bind_eq_some_iff.1 this;obtain⟨q,A1,c1,A2,c2,rfl,h3⟩:=Jxq h2;obtain⟨_,aY⟩:=Jj8 h1;exact⟨q,A1,c1,A2,c2,aY,h3⟩)
  refine⟨l,some a,cap,by rw [cY],⟨Ua,mH,fun hp=>?_⟩,fun q hq=>?_⟩
  ·obtain⟨b,off,spot⟩:=a
   have kA:spot=none:=by
    obtain⟨A1,c1,A2,c2,h0,_⟩:=hr 0 l[0] (Ng hp);simpa [Addr.add] using World.cell?_spot (h0 0 _ rfl)
   subst kA;refine⟨b,off,rfl,fun k x hk=>?_⟩;obtain⟨A1,c1,A2,c2,h0,h1,h2,_⟩:=hr k x hk;simp only [Go.WideShapes.add_plain] at h0;exact⟨A1,c1,A2,c2,⟨h0 0 _ rfl,h0 1 _ rfl,h0 2 _ rfl,h0 3 _ rfl,h0 4 _ rfl,h0 5 _ rfl,h0 6 _ rfl,h0 7 _ rfl,h0 8 _ rfl,h0 9 _ rfl,h1,h2⟩⟩
  ·obtain⟨i,hi⟩:=List.getElem?_of_mem hq;obtain⟨_,_,_,_,_,_,_,h⟩:=hr i q hi;exact h
structure Q4 (p:Pr):Prop where
 name:p.name.size<=maxLen
 ins:∀v∈p.ins,Jmh v
 outs:∀v∈p.outs,Jmh v
 locals:∀v∈p.locals,Jmh v
 eqs:∀q∈p.eqs,Jtj q
theorem Jxw {base:Nat} {v:Value} {d:DataW H} {ps:List MemPlace} (hv:Value.okWide Tryz.prog w .any base 25 v) (h:DataW.Trod enc Tryz.prog w 0 spare held 25 v d ps) :
  ∃(p:Pr) (a:PrA),v=prV p a/\Kr w p a/\Q4 p:=by
 obtain⟨cs,rfl,cE⟩:=okWide_struct Tryz.underlying25 hv;obtain⟨fuel,hf⟩:=h;obtain⟨xs,n,rfl,hx,ai,lB,hg⟩:=DataW.trod_struct Tryz.underlying25 hf;obtain⟨cs⟩:=cs;simp only [Value.cells] at ai hg;rw [Jp4] at ai
 match cs,ai,xs,lB with
 | [c0,c1,c2,c3,c4],_,[y0,y1,y2,y3,y4],_=>
  have g0:DataW.trod enc Tryz.prog w 0 spare held n 9 (([c0,c1,c2,c3,c4].drop 0).take (Tryz.prog.cellsOf 9))=some y0:=hg 0 _ rfl;rw [Ja1] at g0;have g1:DataW.trod enc Tryz.prog w 0 spare held n 22 (([c0,c1,c2,c3,c4].drop 1).take (Tryz.prog.cellsOf 22))=some y1:=hg 1 _ rfl;rw [Jh9] at g1;have g2:DataW.trod enc Tryz.prog w 0 spare held n 22 (([c0,c1,c2,c3,c4].drop 2).take (Tryz.prog.cellsOf 22))=some y2:=hg 2 _ rfl;rw [Jh9] at g2;have g3:DataW.trod enc Tryz.prog w 0 spare held n 22 (([c0,c1,c2,c3,c4].drop 3).take (Tryz.prog.cellsOf 22))=some y3:=hg 3 _ rfl;rw [Jh9] at g3;have g4:DataW.trod enc Tryz.prog w 0 spare held n 23 (([c0,c1,c2,c3,c4].drop 4).take (Tryz.prog.cellsOf 23))=some y4:=hg 4 _ rfl;rw [Jvw] at g4;obtain⟨s,hs,_,ws⟩:=DataW.trod_string Tryz.underlying9 g0;obtain⟨l1,A1,n1,h1,v1,o1⟩:=Jh4 g1;obtain⟨l2,A2,n2,h2,v2,o2⟩:=Jh4 g2;obtain⟨l3,A3,n3,h3,v3,o3⟩:=Jh4 g3;obtain⟨l4,A4,n4,h4,v4,o4⟩:=Jwa g4;simp at hs h1 h2 h3 h4;subst hs h1 h2 h3 h4;exact⟨⟨s,l1,l2,l3,l4⟩,⟨A1,n1,A2,n2,A3,n3,A4,n4⟩,rfl,⟨v1,v2,v3,v4⟩,⟨ws,o1,o2,o3,o4⟩⟩
end
section
variable {H:Type} {enc:TypeId×Value->H} {P:Program}
theorem Jn4 {f:Func} {s:ChangeSpec} {apart fresh handsOn again:Bool} {W W':World} {args:Array Value} {v:Value} {ds gs:List (DataW H)} {before pa pv:List MemPlace}
  (hW:DataW.Whole enc P f.params.toList s.vars apart W args.toList ds gs before)
  (iE:∀(b:Nat) (sp:Nat->Bool) (hd:Bool),DataW.TrodAll enc P W' b sp hd f.resultTypes.toList (v.resultList f.resultTypes.size) (s.fn H (ds ++ gs)).results [])
  (sc:∀sp:Nat->Bool,(∀p∈before,sp p.block=true)->DataW.TrodAll enc P W' 0 sp true f.params.toList args.toList (s.fn H (ds ++ gs)).args pa)
  (aJ:∀sp:Nat->Bool,(∀p∈before,sp p.block=true)->DataW.TrodVars enc P W' sp s.vars (s.fn H (ds ++ gs)).vars pv)
  (wu:before=pa ++ pv) (hb:Below W.heap.size W W')
  (aw:∀(j:Nat) (t:TypeId) (r:Value),f.resultTypes[j]?=some t->(v.resultList f.resultTypes.size)[j]?=some r->Value.okWide P W' .any 0 t r) :
  s.post enc P f apart fresh handsOn again W args v W':=by
 have am:∀p∈before,p.block<W.heap.size:=fun p hp=>hW.lt p hp;have xh:∀p∈before,(fun b=>decide (b<W.heap.size)) p.block=true:=fun p hp=>by simpa using am p hp
 refine⟨ds,gs,before,[],pa,pv,hW,iE _ _ _,sc _ xh,aJ _ xh,World.keptBut_mono (fun p hp=>⟨hp,?_⟩) (hb.frame (·∈before)),fun _=>?_⟩
 ·rw [wu,List.mem_append] at hp;exact Or.inr hp
 ·obtain⟨_,_,_,_,_,hz,hn⟩:=hW;refine⟨aw,_,_,([] ++ pa) ++ pv,⟨[] ++ pa,pv,trodAll_append (sc _ (fun _ _=>rfl)) (iE _ _ _),aJ _ (fun _ _=>rfl),rfl,?_,?_⟩,?_⟩
  ·intro b off hp;have dV:MemPlace.cell b off∈before:=by rw [wu];simpa using hp
   rw [hb.frozen (am _ dV)];exact hz b off dV
  ·intro ha;have:=hn ha;rw [wu] at this;simpa using this
  ·intro p hp _;rw [wu];simpa using hp
end
theorem Tryz.own:ownKnob Tryz.prog.godebug=none:=Ug
theorem Tryz.laidOut:laidOutB Tryz.prog=true:=Ug
theorem Jsw:Tryz.prog.readableRec 25=true:=Ug
theorem Jto:25<Tryz.prog.types.size:=of_decide_eq_true Ug
end Go.Proofs.YtknfcamdfdfoeaaGreatDoor
namespace Go.Proofs.YtknfcamdfdfoeaaGreatDoor
open Go.RowKit
theorem Jhw:∀(l:List Ex) (n:Int) (x:Ex),x∈l->x.depth<=Ex.depthL l n/\n<=Ex.depthL l n
 | [],n,x,h=>by cases h
 | y :: l,n,x,h=>by
  rw [Ex.depthL]
  have h2:max n y.depth<=Ex.depthL l (max n y.depth):=by
   cases l with
   | nil=>simp [Ex.depthL]
   | cons z l=>exact(Jhw (z :: l) (max n y.depth) z Ul).2
  rcases List.mem_cons.1 h with rfl|h
  ·exact Ua
  ·have:=(Jhw l (max n y.depth) x h).1;exact Ua
end Go.Proofs.YtknfcamdfdfoeaaGreatDoor
namespace Go.Proofs.YtknfcamdfdfoeaaGreatDoor
open Go.RowKit Go.Sort
def Qf (w:World) (l:List ByteArray) (A:Option Addr) (cap:Nat):Prop:=
 l.length<=cap/\cap<=maxLen/\(0<l.length->∃b off,A=some ⟨b,off,none⟩/\∀(k:Nat) (s:ByteArray),l[k]?=some s->w.cell? ⟨b,off+k,none⟩=some (.string s))
theorem Qf.later {w w':World} {l:List ByteArray} {A:Option Addr} {cap:Nat} (h:Qf w l A cap) (hb:Below w.heap.size w w'):Qf w' l A cap:=
 ⟨h.1,h.2.1,fun hl=>by
  obtain⟨b,off,hA,hr⟩:=h.2.2 hl;exact⟨b,off,hA,fun k s hk=>Ja hb (hr k s hk)⟩⟩
theorem Qf.get {w:World} {l:List ByteArray} {A:Option Addr} {cap k:Nat} {s:ByteArray} (h:Qf w l A cap) (hk:l[k]?=some s):∃b off,A=some ⟨b,off,none⟩/\b<w.heap.size/\w.cell? ⟨b,off+k,none⟩=some (.string s):=by
 have am:k<l.length:=(Nh hk).1;obtain⟨b,off,hA,hr⟩:=h.2.2 Ua;exact⟨b,off,hA,Nu (hr k s hk),hr k s hk⟩
theorem Qf.len {w:World} {l:List ByteArray} {A:Option Addr} {cap:Nat} (h:Qf w l A cap):l.length<=cap/\cap<=maxLen:=⟨h.1,h.2.1⟩
theorem Qf.made (w:World) (l:List ByteArray) (t:TypeId) (c:Array Value) (hc:c=(l.map Value.string).toArray) (hl:l.length<=maxLen):Qf (w.alloc (.cells c t)) l (some ⟨w.heap.size,0,none⟩) l.length:=by
 refine⟨Ns _,hl,fun _=>⟨_,_,rfl,fun k s hk=>?_⟩⟩;rw [Nat.zero_add,Kw,hc];exact L6
def Jda (p:Int->Bool) (s:ByteArray):Nat->Nat->Nat
 | 0,pos=>pos
 | fuel+1,pos=>if h:pos<s.size then(if p ((s[pos]'h).toNat:Int) then Jda p s fuel (pos+1) else pos) else s.size
theorem Jja {c:Int} (h:128<=c):Q5 c=false:=by
 unfold Q5 Zh Jbz;exact Uj
theorem Joe (s:ByteArray):∀f pos,s.size<f+pos->pos<=s.size->Zb Q5 s f pos=Jda Q5 s f pos
 | 0,pos,h,h2=>Ua
 | f+1,pos,h,h2=>by
  unfold Zb Jda
  by_cases am:pos<s.size
  ·rw [if_pos am,dif_pos am]
   by_cases ha:(s[pos]'am).toNat<128
   ·rw [decode_ascii s pos am ha]
    by_cases hp:Q5 ((s[pos]'am).toNat:Int)=true
    ·rw [if_pos hp,if_pos hp];exact Joe s f (pos+1) Ua Ua
    ·rw [if_neg hp,if_neg hp]
   ·have hh:=decode_high s pos am Ua;rw [if_neg (by rw [Jja Ua];simp),if_neg (by rw [Jja Ua];simp)]
  ·rw [if_neg am,dif_neg am]
theorem Jfd (c:Int) (w:World):Calls Tryz.prog 169 #[.int .u8 c] w fun r w'=>r = .returned (.bool (Zh c))/\w=w':=by
 unfold Zh
 by_cases h:97<=c
 ·go_enter Tryz.func169,Tryz.ntmps169
  exact Udb
 ·go_enter Tryz.func169,Tryz.ntmps169
  exact Udc
theorem Jjf (c:Int) (w:World):Calls Tryz.prog 178 #[.int .u8 c] w fun r w'=>r = .returned (.bool (Jbz c))/\w=w':=by
 unfold Jbz
 by_cases h:48<=c
 ·go_enter Tryz.func178,Tryz.ntmps178
  exact Udb
 ·go_enter Tryz.func178,Tryz.ntmps178
  exact Udc
theorem Jva (s:ByteArray) (w:World) (hs:s.size<=1000000):Calls Tryz.prog 170 #[.string s,.int .i64 0,.int .i64 0] w fun r w'=>r = .returned (.int .i64 (Jda Q5 s (s.size+1) 0:Nat))/\w=w':=by
 go_enter Tryz.func170,Tryz.ntmps170
 go_wp2_with fail
 go_loopw [7] (fun i wr=>∃k:Nat,k<=s.size/\i = .int .i64 k/\Jda Q5 s (s.size+1-k) k=Jda Q5 s (s.size+1) 0/\w=wr) (fun i _=>s.size-(intOf i).toNat)
 case atStart=>exact⟨0,Np,rfl,rfl,rfl⟩
 case round=>
  obtain⟨k,hk,rfl,aa,rfl⟩:=hrel;obtain⟨f,hf⟩:∃f,s.size+1-k=f+1:=⟨s.size-k,Ua⟩;rw [hf,Jda] at aa;have gO:s.size+1-(k+1)=f:=Ua
  by_cases am:k<s.size
  ·rw [dif_pos am] at aa;have hb:(s[k]'am).toNat<256:=UInt8.toNat_lt _
   cases hp:Q5 ((s[k]'am).toNat:Int)
   ·rw [hp,if_neg Ul] at aa;have gL:=hp;unfold Q5 at gL;simp only [Bool.or_eq_false_iff,decide_eq_false_iff_not] at gL;obtain⟨⟨p1,p2⟩,p3⟩:=gL;have p4:(((s[k]'am).toNat:Int) != 95)=true:=by simpa using p3
    have HR:=Nf aa;clear aa hf gO hp p3
    go_wp2_with (first|(go_at_call 178;refine(Jjf _ _).mono ?_;rintro r w1 ⟨rfl,rfl⟩)|(go_at_call 169;refine(Jfd _ _).mono ?_;rintro r w1 ⟨rfl,rfl⟩))
    go_ret;exact⟨Jm Tg,rfl⟩
   ·rw [hp,if_pos rfl,<-gO] at aa;have HR:=Nf aa;clear aa hf gO
    have gL:Jbz ((s[k]'am).toNat:Int)=true\/(Jbz ((s[k]'am).toNat:Int)=false/\Zh ((s[k]'am).toNat:Int)=true)\/(Jbz ((s[k]'am).toNat:Int)=false/\Zh ((s[k]'am).toNat:Int)=false/\(((s[k]'am).toNat:Int) != 95)=false):=by
     unfold Q5 at hp
     cases h1:Jbz ((s[k]'am).toNat:Int) <;> cases h2:Zh ((s[k]'am).toNat:Int) <;> simp_all
    clear hp
    rcases gL with p1|⟨p1,p2⟩|⟨p1,p2,p3⟩ <;>
    ·go_wp2_with (first|(go_at_call 178;refine(Jjf _ _).mono ?_;rintro r w1 ⟨rfl,rfl⟩)|(go_at_call 169;refine(Jfd _ _).mono ?_;rintro r w1 ⟨rfl,rfl⟩))
     go_roundw
     case rel=>exact⟨k+1,Ua,Up,HR.out,by first|trivial|rfl⟩
     case measure=>simp [intOf];omega
  ·rw [dif_neg am] at aa;have bk:k=s.size:=Ua;have HR:=Nf aa;clear aa hf gO
   go_wp2_with fail
   go_ret;exact⟨Jm (by rw [<-HR.out];omega),rfl⟩
theorem Jtq (l:List ByteArray) (A:Option Addr) (cap:Nat) (s:ByteArray) (w:World) (hl:Qf w l A cap) :
  Calls Tryz.prog 179 #[.slice A l.length cap,.string s] w fun r w'=>r = .returned (.bool (l.any fun x=>x.toList == s.toList))/\Below w.heap.size w w':=by
 have ai:=hl.len;unfold maxLen at ai;obtain⟨jD,jE⟩:=ai
 go_enter Tryz.func179,Tryz.ntmps179
 go_wp2_with fail
 go_loopw [5] (fun i wr=>∃k:Nat,k<=l.length/\i = .int .i64 k/\((l.drop k).any fun x=>x.toList == s.toList)=(l.any fun x=>x.toList == s.toList)/\Below w.heap.size w wr) (fun i _=>l.length-(intOf i).toNat)
 case atStart=>exact⟨0,Np,rfl,rfl,Jb⟩
 case round=>
  obtain⟨k,hk,rfl,aa,ab⟩:=hrel
  by_cases am:k<l.length
  ·have hx:l[k]?=some l[k]:=Ng am;have hd:l.drop k=l[k] :: l.drop (k+1):=No am;generalize l[k]=x at hx hd;obtain⟨b,off,rfl,aH,d0⟩:=(hl.later ab).get hx;rw [hd,List.any_cons] at aa;exact Uax
  ·obtain rfl:k=l.length:=Ua;rw [Nn,List.any_nil] at aa;have HR:=Nf aa;clear aa
   go_wp2_with fail
   exact Udg
def Jk0:List ByteArray:=[⟨#[110,111,100,101]⟩,⟨#[114,101,116,117,114,110,115]⟩,⟨#[118,97,114]⟩,⟨#[108,101,116]⟩,⟨#[116,101,108]⟩,⟨#[105,102]⟩,⟨#[116,104,101,110]⟩,⟨#[101,108,115,101]⟩,⟨#[102,98,121]⟩,⟨#[112,114,101]⟩,⟨#[119,104,101,110]⟩,⟨#[117,110,108,101,115,115]⟩,⟨#[109,101,114,103,101]⟩,⟨#[110,111,116]⟩,⟨#[116,114,117,101]⟩,⟨#[102,97,108,115,101]⟩,⟨#[105,110,116]⟩,⟨#[98,111,111,108]⟩]
theorem Jvs (a b:List UInt8):(a == b)=(b == a):=by
 rw [Bool.eq_iff_iff];simp;exact eq_comm
theorem Juo (s:ByteArray):(Jk0.any fun x=>x.toList == s.toList)=Jdo s:=by
 have h:∀a:ByteArray,(a.toList == s.toList)=(s.toList == a.data.toList):=fun a=>by rw [Jvs,ByteArray.toList_eq a]
 unfold Jk0 Jdo;simp only [List.any_cons,List.any_nil,Bool.or_false,h,Bool.or_assoc]
theorem Jrs (s:ByteArray) (w:World):Calls Tryz.prog 171 #[.string s] w fun r w'=>r = .returned (.bool (Jdo s))/\Below w.heap.size w w':=by
 have ham:=fun W A h=>Jtq Jk0 A Jk0.length s W h;rw [Juo] at ham
 go_enter Tryz.func171,Tryz.ntmps171
 go_wp2_with (go_at_call 179;go_loud (refine(ham _ _ (Qf.made _ Jk0 _ _ rfl (by unfold maxLen;decide))).mono ?_;rintro r w1 ⟨rfl,ac⟩))
 go_ret;exact⟨rfl,Jb⟩
theorem Xt (s:ByteArray) (w:World):Calls Tryz.prog 154 #[.string s] w fun r w'=>r = .returned (.bool (Kz s))/\Below w.heap.size w w':=by
 by_cases h0:0<s.size
 ·by_cases h1:s.size<=16
  ·have hb:s[0].toNat<256:=UInt8.toNat_lt _;have hv:Kz s=(Zh (s[0].toNat:Int) && decide (Zb Q5 s (s.size+1) 0=s.size) && !Jdo s):=Mi;rw [Joe s (s.size+1) 0 Ua Ua] at hv;have eH:=fun W=>Jva s W Ua
   have hx:(((Jda Q5 s (s.size+1) 0:Nat):Int) == (s.size:Int))=decide (Jda Q5 s (s.size+1) 0=s.size):=by
    by_cases h:Jda Q5 s (s.size+1) 0=s.size
    ·rw [h];simp
    ·rw [decide_eq_false h];simp;omega
   generalize Jda Q5 s (s.size+1) 0=rn at *;have HV:=Nf hv;clear hv
   cases h2:Zh (s[0].toNat:Int) <;> cases h3:decide (rn=s.size) <;> rw [h3] at hx <;> cases h4:Jdo s <;>
   ·rw [h2,h3,h4] at HV;clear h3
    go_enter Tryz.func154,Tryz.ntmps154
    go_wp2_with (first|(go_at_call 169;refine(Jfd _ _).mono ?_;rintro r w1 ⟨rfl,rfl⟩)|(go_at_call 170;refine(eH _).mono ?_;rintro r w1 ⟨rfl,rfl⟩)|(go_at_call 171;refine(Jrs _ _).mono ?_;rintro r w1 ⟨rfl,ac⟩))
    go_ret;exact⟨Jk Vi,Jb⟩
  ·have hv:Kz s=false:=Mi;have HV:=Nf hv;clear hv
   go_enter Tryz.func154,Tryz.ntmps154
   exact Ude
 ·have hv:Kz s=false:=by unfold Kz;rw [dif_neg h0]
  have HV:=Nf hv;clear hv;obtain rfl:=Je2 h0
  go_enter Tryz.func154,Tryz.ntmps154
  exact Ude
theorem Juh {d:ByteArray->Option Int} {k:Nat} (HD:Hid (∀s,0<=(d s).getD 0/\(d s).getD 0<=(k:Int))) {n:ByteArray} (h0:0<=(d n).getD 0) (h1:(d n).getD 0<=(k:Int)) :
  Hid (∀s,0<=((upd d n ((d n).getD 0+1)) s).getD 0/\((upd d n ((d n).getD 0+1)) s).getD 0<=((k+1:Nat):Int)):=by
 intro s;have h2:=HD.out s;unfold upd
 by_cases h:s.data=n.data
 ·rw [if_pos h];simp only [Option.getD_some];omega
 ·rw [if_neg h];omega
theorem Jqf (p:Pr) (a:PrA) (w:World) (hp:Kr w p a) (n1:p.ins.length<=1000000) (n2:p.outs.length<=1000000) (n3:p.locals.length<=1000000) (n4:p.eqs.length<=1000000) (he:K5 p=0)
  (g1:p.ins.length<=8) (g2:p.outs.length<=8) (g3:(Je p).length<=24) :
  Calls Tryz.prog 75 #[prV p a] w fun r w'=>r = .returned (fV (J7 p))/\Below w.heap.size w w':=by
 have dD:J7 p=Jhl p (Jah (Je p) 0 (Je p)):=by unfold J7;rw [if_neg Ua,if_neg Ua]
 have jn:=Z5 he;have mn:=Jep jn;have dn:=(X4 jn).2.2.2.2;have bN:=fun W h=>Jh3 p a W (hp.later h) n1 n2 n3 n4;have aJ:=fun W h=>Jcv p a W (hp.later h) n1 n2 n3;rw [he] at bN;clear he jn;have aO:=fun A cap W h=>Jtr (Je p) A cap (fun v hv=>by have:=(mn v hv).1;unfold maxLen;omega) Ua W h;have kC:p.ins.length<=(Je p).length:=by simp [Je]
 have jN:∀v∈Je p,v.name.size<=maxLen:=fun v hv=>by have:=(mn v hv).1;unfold maxLen;omega
 have HSM:=Nf jN;clear jN mn;have jR:=Nf dn;clear dn;have jQ:=Nf dD;clear dD;have oM:=hp.eqs.len;obtain⟨A1,c1,A2,c2,A3,c3,A4,c4⟩:=a;unfold maxLen at oM;unfold prV at *;unfold fV;dsimp only at *;obtain⟨tC,tD⟩:=oM;have HIL:=Nf kC;clear kC;generalize hL:Je p=L at *;have HL:=Nf hL;clear hL
 go_enter Tryz.func75,Tryz.ntmps75
 go_wp2_with (first|(go_at_call 110;refine(bN _ Jb).mono ?_;rintro r wa ⟨rfl,aA⟩;have aW:=Jg aA;have bS:=Jf aA;have cN:w.heap.size+2<=wa.heap.size:=Ut;have dG:=lt0 w wa;have mj:=ltA w 1 wa)|(go_at_call 42;refine(aJ _ Jb).mono ?_;rintro r wb ⟨⟨A,cap,rfl,ae⟩,aH⟩;have el:=Jg aH;have mJ:=Jf aH;have dH:=aH.size;have cA:=lt0 w wb;have mm:=ltA w 1 wb;have cR:=Ju.of_own ae)|(go_at_call 111;refine(aO _ _ _ (cR.later Jb)).mono ?_;rintro r wc ⟨⟨B,rfl,hB,kg⟩,bU⟩;have cB:=Jg bU;have eB:=Jf bU;have iG:=bU.size;have kh:=lt0 w wc;have uE:=ltA w 1 wc))
 refine Jo fun W0 ag=>?_;have ax:=Nd w W0 Uo;have zk:=Nd wc W0 Uo;have uF:wc.heap.size<W0.heap.size:=La;have bD:=lt0 w W0;have iq:=ltA w 1 W0;have p1:=Nb W0 w.heap.size 1 (.slice A1 p.ins.length c1) Uc;have p4:=Nb W0 w.heap.size 4 (.slice A4 p.eqs.length c4) Uc;have f0:=Na W0 (w.heap.size+1) 0 0 Uc;have f1:=Na W0 (w.heap.size+1) 1 0 Uc;have f2:=Na W0 (w.heap.size+1) 2 0 Uc;have l0:=Nb W0 wc.heap.size 0 (.slice A L.length cap) Uc;have l1:=Nb W0 wc.heap.size 1 (.map (some B)) Uc;have z0:=Nc W0 (w.heap.size+1) 0 Uc;have z1:=Nc W0 (w.heap.size+1) 1 Uc;have z2:=Nc W0 (w.heap.size+1) 2 Uc;clear ag;have bE:Ju W0 L A cap:=cR.later Jb;have eU:=kg.bel zk;have bT:=hp.eqs.later ax;have uG:=eU.lt;dsimp only at bT;clear bN aJ aO ae cR kg aW el cB bS mJ eB hp
 go_loopw [47] (fun i wr=>∃k:Nat,k<=L.length/\i = .int .i64 k/\Jah L k (L.drop k)=Jah L 0 L/\Below W0.heap.size W0 wr) (fun i _=>L.length-(intOf i).toNat)
 case atStart=>exact⟨0,Np,rfl,rfl,Nt⟩
 case round=>
  obtain⟨k,hk,rfl,aa,ab⟩:=hrel;have hc:=Jg ab;have eh:=Jf ab;have bu:=ab.size;have ej:=eU.bel ab;have fF:=lt0 w wr;have fa:=ltA w 1 wr;have hr3:=lt0 wc wr;have sj:B<wr.heap.size:=Ua
  by_cases am:k<L.length
  ·obtain⟨x,hx,-,hd⟩:=Kl am;obtain⟨b,off,rfl,aH,⟨d0,d1,d2,d3⟩⟩:=(bE.later ab).get hx;rw [hd,Jah] at aa;have hs:=HSM.out x (Ni hx);clear hd hx
   cases dj:((Qi L x.name).getD 0 != (k:Int))
   case true=>
    rw [if_pos G7] at aa;have hv:J7 p=(2,(k:Int),18):=G0;clear aa;have HV:=Nf hv;clear hv
    go_wp2_with (first|(at_lookup;refine Qb rfl (.tmp 53) (.tmp 55) 115 rfl Tryz.underlying9 Tryz.underlying115 Tryz.underlying3 (Kj _) B L.length (Qi L) x.name rfl Udh rfl hs ?_))
    refine Nv (v:= .agg #[.int .i64 (2),.int .i64 ((k:Int)),.int .i64 (18)]) Vy rfl ⟨Vp,?_⟩;exact Km
   rw [if_neg G7] at aa;have HR:=Nf aa;clear aa
   go_wp2_with (first|(at_lookup;refine Qb rfl (.tmp 53) (.tmp 55) 115 rfl Tryz.underlying9 Tryz.underlying115 Tryz.underlying3 (Kj _) B L.length (Qi L) x.name rfl Udh rfl hs ?_))
   exact Uc5
  obtain rfl:k=L.length:=Ua;rw [Nn,Jah] at aa;have fC:J7 p=Jkn L p.ins.length (Zy L p.ins.length 0 (fun _=>none) p.eqs):=by rw [jQ.out,<-aa,Jhl,HL.out]
  have ku:=Nf fC;clear fC aa;clear ej;obtain⟨Wm,rfl⟩:∃Wm,Wm=wr:=⟨wr,rfl⟩;have iQ:=Nd w Wm (Jd ax ab);have rE:=bE.later ab;have zl:=eU.bel ab;have zn:=bT.later ab;have hcz:=lt0 wc Wm;replace p1:=(hc _ _ bD).trans p1;replace p4:=(hc _ _ bD).trans p4;replace f0:=(hc _ _ iq).trans f0;replace f1:=(hc _ _ iq).trans f1;replace f2:=(hc _ _ iq).trans f2;replace l0:=(hc _ _ uF).trans l0;replace l1:=(hc _ _ uF).trans l1;replace z0:=(eh _ _ iq).trans z0;replace z1:=(eh _ _ iq).trans z1;replace z2:=(eh _ _ iq).trans z2;clear hc eh bu ab bE eU bT ax zk bD iq uF sj uG;have uG:=zl.lt;have gI:=@run_makeMap Tryz.prog
  go_wp2_with fail
  clear gI
  go_loopw [66] (fun i wr=>∃(k:Nat) (d:ByteArray->Option Int),k<=p.eqs.length/\i = .int .i64 k/\Jz Tryz.prog 9 3 wr Wm.heap.size k d/\Hid (∀s,0<=(d s).getD 0/\(d s).getD 0<=(k:Int))/\Zy L p.ins.length k d (p.eqs.drop k)=Zy L p.ins.length 0 (fun _=>none) p.eqs/\Below Wm.heap.size Wm wr) (fun i _=>p.eqs.length-(intOf i).toNat)
  case atStart=>exact⟨0,_,Np,rfl,Jz.made _,Nf (fun s=>⟨Ul,Ul⟩),rfl,Jb⟩
  case round=>
   obtain⟨k,d,hk,rfl,hmd,HD,aa,ab⟩:=hrel;have hc:=Jg ab;have eh:=Jf ab;have bu:=ab.size;have ek:=hmd.lt;have fF:=lt0 w wr;have fa:=ltA w 1 wr;have hr3:=lt0 wc wr;have sj:B<wr.heap.size:=Ua
   by_cases am:k<p.eqs.length
   ·obtain⟨q,hx,-,hd⟩:=Kl am;obtain⟨b,off,B1,n1,B2,n2,rfl,aH,⟨g0,g1,g2,g3,g4,g5,g6,g7,g8,g9,s1,s2⟩⟩:=(zn.later ab).get hx;rw [hd,Zy] at aa;have hq:=jR.out q (Ni hx);have hs:q.name.size<=maxLen:=by have:=(Jaq hq).1;unfold maxLen;omega
    have ou:=fun W h1 h2 hl hd=>Jpd q hq L A cap B L.length B1 n1 B2 n2 p.ins.length Wm.heap.size k d W h1 h2 hl hd;unfold Q6 qeV at ou;obtain⟨hdq0,hdq1⟩:=HD.out q.name;clear hd hx hq
    cases dj:(eqE L p.ins.length d q != 0)
    case true=>
     rw [if_pos G7] at aa;have fC:J7 p=(3,(k:Int),eqE L p.ins.length d q):=Fk;clear aa;have HV:=Nf fC;clear fC
     go_wp2_with (first|(go_at_call 112;refine(ou _ (s1.later Jb) (s2.later Jb) ⟨rE.later Jb,Udh⟩ Udh).mono ?_;rintro r w1 ⟨rfl,ac⟩;have ak:=Jg ac;have db:=Jf ac;have af:=ac.size;(try simp at af);have bV:=alt ac;have mo:=lt0 wc w1)|(at_lookup;refine Qb rfl (.tmp 83) (.tmp 85) 115 rfl Tryz.underlying9 Tryz.underlying115 Tryz.underlying3 (Kj _) Wm.heap.size k d q.name rfl Udh rfl hs ?_)|(at_mapUpdate;refine Jau rfl (.tmp 83) (.tmp 85) (.tmp 87) 115 rfl Tryz.underlying9 Tryz.underlying115 Tryz.underlying3 Wm.heap.size k d q.name ((d q.name).getD 0+1) rfl Udh Ua rfl rfl hs Ua ?_;intro w2 cI aG))
     refine Nv (v:= .agg #[.int .i64 (3),.int .i64 ((k:Int)),.int .i64 ((eqE L p.ins.length d q))]) Vy rfl ⟨Vp,?_⟩;exact Km
    rw [if_neg G7] at aa;have HR:=Nf aa;clear aa
    go_wp2_with (first|(go_at_call 112;refine(ou _ (s1.later Jb) (s2.later Jb) ⟨rE.later Jb,Udh⟩ Udh).mono ?_;rintro r w1 ⟨rfl,ac⟩;have ak:=Jg ac;have db:=Jf ac;have af:=ac.size;(try simp at af);have bV:=alt ac;have mo:=lt0 wc w1)|(at_lookup;refine Qb rfl (.tmp 83) (.tmp 85) 115 rfl Tryz.underlying9 Tryz.underlying115 Tryz.underlying3 (Kj _) Wm.heap.size k d q.name rfl Udh rfl hs ?_)|(at_mapUpdate;refine Jau rfl (.tmp 83) (.tmp 85) (.tmp 87) 115 rfl Tryz.underlying9 Tryz.underlying115 Tryz.underlying3 Wm.heap.size k d q.name ((d q.name).getD 0+1) rfl Udh Ua rfl rfl hs Ua ?_;intro w2 cI aG))
    go_roundw
    case rel=>exact⟨k+1,_,Ua,Up,cI,Juh HD hdq0 hdq1,HR.out,Jnu Jb aG (Ns _)⟩
    case measure=>simp [intOf];omega
   obtain rfl:k=p.eqs.length:=Ua;rw [Nn,Zy] at aa;have fC:J7 p=Jg3 d L p.ins.length:=Fk;have bL:=Nf fC;clear fC aa ku;obtain⟨We,rfl⟩:∃We,We=wr:=⟨wr,rfl⟩;have ro:=Nd w We (Jn iQ ab Ua);have hvae:=rE.later ab;have hr5:=lt0 Wm We;have bD:=lt0 w Wm;have af:=ltA w 1 Wm;replace p1:=(hc _ _ bD).trans p1;replace f0:=(hc _ _ af).trans f0;replace f1:=(hc _ _ af).trans f1;replace f2:=(hc _ _ af).trans f2;replace z0:=(eh _ _ af).trans z0;replace z1:=(eh _ _ af).trans z1;replace z2:=(eh _ _ af).trans z2;clear hc eh iQ ab rE zn zl;have kC:=HIL.out
   go_wp2_with fail
   go_loopw [13] (fun i wr=>∃k:Nat,p.ins.length<=k/\k<=L.length/\i = .int .i64 k/\Jam d k (L.drop k)=Jam d p.ins.length (L.drop p.ins.length)/\Below We.heap.size We wr) (fun i _=>L.length-(intOf i).toNat)
   case atStart=>exact⟨p.ins.length,Ns _,kC,rfl,rfl,Jb⟩
   case round=>
    obtain⟨k,fR,hk,rfl,aa,ab⟩:=hrel;have hc:=Jg ab;have eh:=Jf ab;have bu:=ab.size;have ej:=hmd.bel ab;have hr6:=lt0 w wr;have hr7:=ltA w 1 wr
    by_cases am:k<L.length
    ·obtain⟨x,hx,-,hd⟩:=Kl am;obtain⟨b,off,rfl,aH,⟨d0,d1,d2,d3⟩⟩:=(hvae.later ab).get hx;rw [hd,Jam] at aa;have hs:=HSM.out x (Ni hx);clear hd hx
     cases dj:((d x.name).getD 0 == 0)
     case true=>
      rw [if_pos G7] at aa;have hv:J7 p=(2,(k:Int),8):=by rw [bL.out,Jg3,<-aa]
      clear aa;have HV:=Nf hv;clear hv
      go_wp2_with (first|(at_lookup;refine Qb rfl (.tmp 98) (.tmp 103) 115 rfl Tryz.underlying9 Tryz.underlying115 Tryz.underlying3 (Kj _) Wm.heap.size p.eqs.length d x.name rfl Udh rfl hs ?_))
      refine Nv (v:= .agg #[.int .i64 (2),.int .i64 ((k:Int)),.int .i64 (8)]) Vy rfl ⟨Vp,?_⟩;exact Km
     rw [if_neg G7] at aa;have HR:=Nf aa;clear aa
     go_wp2_with (first|(at_lookup;refine Qb rfl (.tmp 98) (.tmp 103) 115 rfl Tryz.underlying9 Tryz.underlying115 Tryz.underlying3 (Kj _) Wm.heap.size p.eqs.length d x.name rfl Udh rfl hs ?_))
     go_roundw
     case rel=>exact⟨k+1,Ua,Ua,Up,HR.out,Jb⟩
     case measure=>simp [intOf];omega
    obtain rfl:k=L.length:=Ua;rw [Nn,Jam] at aa;have hv:J7 p=(0,0,0):=by rw [bL.out,Jg3,<-aa]
    clear aa;have HV:=Nf hv;clear hv
    go_wp2_with fail
    refine Nv (v:= .agg #[.int .i64 (0),.int .i64 (0),.int .i64 (0)]) Vy rfl ⟨Vp,?_⟩;exact Km
theorem Jnk (p:Pr) (a:PrA) (w:World) (hp:Kr w p a) (n1:p.ins.length<=1000000) (n2:p.outs.length<=1000000) (n3:p.locals.length<=1000000) (n4:p.eqs.length<=1000000) :
  Calls Tryz.prog 75 #[prV p a] w fun r w'=>r = .returned (fV (J7 p))/\Below w.heap.size w w':=by
 by_cases he:K5 p=0
 ·by_cases hb:8<p.ins.length\/8<p.outs.length\/24<(Je p).length
  ·exact Jun p a w hp n1 n2 n3 n4 he hb
  ·exact Jqf p a w hp n1 n2 n3 n4 he Ua Ua Ua
 ·exact Js4 p a w hp n1 n2 n3 n4 he
end Go.Proofs.YtknfcamdfdfoeaaGreatDoor
