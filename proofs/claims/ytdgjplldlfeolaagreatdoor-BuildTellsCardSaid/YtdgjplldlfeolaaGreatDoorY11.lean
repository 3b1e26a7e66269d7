/- Lemmas. -/
import Derived.Test.YtdgjplldlfeolaaGreatDoorMac
import Derived.Test.YtdgjplldlfeolaaGreatDoorY00
import Derived.Laws.Cells
import Derived.Laws.ResultCell
import Derived.Test.YtdgjplldlfeolaaGreatDoorTie
import Derived.Test.YtdgjplldlfeolaaGreatDoorCards
import Derived.Test.YtdgjplldlfeolaaGreatDoorY02
import Derived.ProofKit
import Derived.LaidMore
import Derived.OpenShut
import Derived.Stop.Joined
set_option linter.unusedVariables false
set_option linter.unusedSimpArgs false
set_option maxRecDepth 100000
set_option maxHeartbeats 64000000
namespace Go.Proofs.YtdgjplldlfeolaaGreatDoor
open Go.RowKit Go.Sort
theorem Kon {P:Program} {w:World} {t:TypeId} {b:Nat} (l:List Value) (ha:(isAgg t).run P w = .ok true w) (hs:(sizeOf t).run P w = .ok l.length w)
  (hc:∀(j:Nat) (v:Value),l[j]?=some v->w.cell? ⟨b,j,none⟩=some v):(loadVar t ⟨b,0,none⟩).run P w = .ok (.agg l.toArray) w:=by
 have hl:=run_loadCells (P:=P) w ⟨b,0,none⟩ l.length (fun j=>(l[j]?).getD undef) (fun j hj=>by
  have cQ:(⟨b,0,none⟩:Addr).add j=⟨b,j,none⟩:=Lr;rw [cQ];have hg:l[j]?=some l[j]:=Ng hj;rw [hg];exact hc j _ hg)
 have he:((List.range l.length).map fun j=>(l[j]?).getD undef)=l:=by
  apply List.ext_getElem?;intro i
  by_cases hi:i<l.length
  ·simp [hi]
  ·simp [List.getElem?_eq_none (Nat.le_of_not_lt hi),hi]
 rw [he] at hl;unfold loadVar;simp [Sem.run_bind,ha,hs,hl,Result.andThen]
theorem Kol {fn:Func} {p q:Tmp} {t u:TypeId} {tmps:Array Value} {P:Program} {w:World} {b c:Nat} (h:fn.results = #[.cell p t,.cell q u]) (l m:List Value)
  (hp:tmps.getD p undef = .pointer (some ⟨b,0,none⟩)) (hq:tmps.getD q undef = .pointer (some ⟨c,0,none⟩)) (ha:(isAgg t).run P w = .ok true w) (hs:(sizeOf t).run P w = .ok l.length w) (ha2:(isAgg u).run P w = .ok true w) (bd:(sizeOf u).run P w = .ok m.length w)
  (hc:∀(j:Nat) (v:Value),l[j]?=some v->w.cell? ⟨b,j,none⟩=some v) (dm:∀(j:Nat) (v:Value),m[j]?=some v->w.cell? ⟨c,j,none⟩=some v) :
  (results fn tmps).run P w = .ok (.tuple #[.agg l.toArray,.agg m.toArray]) w:=by
 have h1:=Kon l ha hs hc;have h2:=Kon m ha2 bd dm;have hp':tmps[p]?.getD undef = .pointer (some ⟨b,0,none⟩):=by simpa using hp
 have tt:tmps[q]?.getD undef = .pointer (some ⟨c,0,none⟩):=by simpa using hq
 simp only [results,h];simp [Sem.run_bind,Result.andThen,hp',tt,asAddr,h1,h2]
def Koi (W:World) (z:Nat):Nat->List Value->World
 | _,[]=>W
 | o,v :: l=>Koi (W.setCell ⟨z,o,none⟩ v) z (o+1) l
theorem Koj {z b:Nat} (h:b≠z):∀(l:List Value) (o:Nat) (W:World),(Koi W z o l).heap[b]?=W.heap[b]?
 | [],_,_=>rfl
 | v :: l,o,W=>by rw [Koi,Koj h l,heap_setCell_other _ _ _ _ h]
theorem Koo {z j:Nat} : ∀(l:List Value) (o:Nat) (W:World),j<o->(Koi W z o l).cell? ⟨z,j,none⟩=W.cell? ⟨z,j,none⟩
 | [],_,_,_=>rfl
 | v :: l,o,W,h=>by
  rw [Koi,Koo l (o+1) _ Ua];exact World.cell?_setCell_other _ _ _ _ Lh
theorem Kom {z:Nat} : ∀(l:List Value) (o:Nat) (W:World),(∀j,j<l.length->∃u,W.cell? ⟨z,o+j,none⟩=some u)->∀(j:Nat) (v:Value),l[j]?=some v->(Koi W z o l).cell? ⟨z,o+j,none⟩=some v
 | [],_,_,_,j,v,h=>Lc
 | x :: l,o,W,hc,0,v,h=>by
  simp at h;subst h;obtain⟨u,hu⟩:=hc 0 Uh;rw [Koi,Koo l (o+1) _ Ua];exact Nx _ _ _ hu
 | x :: l,o,W,hc,j+1,v,h=>by
  rw [Koi,show o+(j+1)=o+1+j from by omega];refine Kom l (o+1) _ (fun i hi=>?_) j v Vl;obtain⟨u,hu⟩:=hc (i+1) Ui;refine⟨u,(World.cell?_setCell_other _ _ _ _ Lh).trans ?_⟩;rw [show o+1+i=o+(i+1) from by omega];exact hu
theorem Kok {m z:Nat} {w:World} (hz:m<=z):∀(l:List Value) (o:Nat) (W:World),Below m w W->Below m w (Koi W z o l)
 | [],_,_,h=>h
 | v :: l,o,W,h=>by rw [Koi];exact Kok hz l (o+1) _ (Below.setCell h hz _)
end Go.Proofs.YtdgjplldlfeolaaGreatDoor
namespace Go.Proofs.YtdgjplldlfeolaaGreatDoor
open Go.ChangeShapes Go.WideShapes Go.ChangeAt Go.WideMaps Go.WideElems Go.RowKit
def Jk4:List (String×DataW Unit):=Rows.buildAgainRow.laid
theorem Jww (os:Os) (args:Array Value):laidMetH Tryz.prog Jk4 ((World.doorLaid Tryz.prog 400 os).forCall (fun _ _=>0) ⟨#[],args,[]⟩).memory:=
 laidMetH_of_parts3 (fuel:=8) (laidMet_of_run' 8 Ue Ue) Ue Ue
theorem Jyw {W:World} (h:laidMetH Tryz.prog Jk4 W):Ql W:=by
 rw [MakeChecks.laidMetH_plain _ _ _ Ue] at h;obtain⟨ps,⟨g0,t0,cs0,f0,p0,q0,hg0,fQ,dD,lA,_,_⟩,_,_⟩:=h;obtain rfl:=Option.some.inj ((show Tryz.prog.globalNamed _=some 0 by kernel_rfl).symm.trans hg0);obtain rfl:=Option.some.inj ((show(Tryz.prog.globals[0]?).map (·.type)=some 81 by kernel_rfl).symm.trans fQ);obtain⟨xs,n,rfl,hx,ai,lB,hg⟩:=DataW.trod_struct Tryz.underlying81 lA;rw [Jeq] at ai;obtain⟨cs0⟩:=cs0;simp only [Prod.mk.injEq] at hx;obtain⟨hx,_⟩:=hx
 match cs0,ai,xs,lB with
 | [c0,c1],_,[y0,y1],_=>
  have k0:DataW.trod _ Tryz.prog W 0 _ _ n 3 (([c0,c1].drop 0).take (Tryz.prog.cellsOf 3))=some y0:=hg 0 _ rfl;have k1:DataW.trod _ Tryz.prog W 0 _ _ n 9 (([c0,c1].drop 1).take (Tryz.prog.cellsOf 9))=some y1:=hg 1 _ rfl;rw [Jdi] at k0;rw [Ja1] at k1;obtain⟨k,hk,jl,_⟩:=DataW.trod_int Tryz.underlying3 k0;obtain⟨s,hs,bV,_⟩:=DataW.trod_string Tryz.underlying9 k1;simp at hk hs;subst hk hs;subst jl bV;have hd:(DataW.agg [.lit (.int .i64 0),.lit (.string [])]:DataW Unit) = .agg [.lit (.int .i64 k),.lit (.string s.data.toList)]:=hx;injection hd with hd;injection hd with h1 h2;injection h1 with h1;injection h1 with _ h1;injection h2 with h2 _;injection h2 with h2;injection h2 with h2;have xe:s=⟨#[]⟩:=WideShapes.bytes_inj (by rw [<-h2]);subst h1 xe;have e0:=World.var?_cell hg0 dD 0;have e1:=World.var?_cell hg0 dD 1;exact⟨by simpa using e0,by simpa using e1⟩
section
variable {H:Type} {enc:TypeId×Value->H} {w:World} {spare:Nat->Bool} {held:Bool}
end
end Go.Proofs.YtdgjplldlfeolaaGreatDoor
