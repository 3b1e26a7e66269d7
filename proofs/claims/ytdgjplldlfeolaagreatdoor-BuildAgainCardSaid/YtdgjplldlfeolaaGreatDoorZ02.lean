/- Lemmas. -/
import Derived.Test.YtdgjplldlfeolaaGreatDoorZ00
import Derived.Maps.OwnSet
import Derived.Test.YtdgjplldlfeolaaGreatDoorRows
import Derived.ProofKit
import Derived.Deep.Slices
import Derived.Deep.Fields
import Derived.Lib.SmallJoins
import Derived.Laws.Entries
set_option linter.unusedVariables false
set_option linter.unusedSimpArgs false
set_option maxRecDepth 100000
set_option maxHeartbeats 64000000
namespace Go.Proofs.YtdgjplldlfeolaaGreatDoor
open Go.RowKit Go.Sort Go.Maps Go.ChangeMaps Go.WideMaps
def Jaj (P:Program) (k e:TypeId) (w:World) (b n:Nat) (f:ByteArray->Option Int) (c:Nat):Prop:=
 ∃D:DataW Unit,w.ownsMap P k (plainElem P e) b n D/\Maps.Tidy D/\Maps.size D=c/\
  ∀s:ByteArray,Maps.has D (.string s.data.toList)=(f s).isSome/\D.atKey (.string s.data.toList) (.lit (.int .i64 0)) = .lit (.int .i64 ((f s).getD 0))
def Jck (f:ByteArray->Option Int) (s:ByteArray):ByteArray->Option Int:=fun t=>if t.data=s.data then none else f t
section
variable {P:Program} {k e:TypeId} {w w':World} {b n c:Nat} {f:ByteArray->Option Int}
theorem Jaj.made (w:World):Jaj P k e (w.alloc (.map #[] 0)) w.heap.size 0 (fun _=>none) 0:=
 ⟨.map [],World.ownsMap_made w P k _,Maps.tidy_empty,rfl,fun s=>⟨rfl,rfl⟩⟩
theorem Jaj.keep1 (h:Jaj P k e w b n f c) (hb:w'.heap[b]?=w.heap[b]?):Jaj P k e w' b n f c:=by
 obtain⟨D,⟨es,clock,hh,F,hs,hD⟩,h2⟩:=h;exact⟨D,⟨es,clock,hb.trans hh,F,hs,hD⟩,h2⟩
theorem Jaj.lt (h:Jaj P k e w b n f c):b<w.heap.size:=by
 obtain⟨D,h1,_⟩:=h;exact h1.lt
theorem Jaj.bel (h:Jaj P k e w b n f c) (hb:Below w.heap.size w w'):Jaj P k e w' b n f c:=h.keep1 (hb.block b h.lt)
theorem Jaj.plain (h:Jaj P k e w b n f c):Jz P k e w b n f:=by
 obtain⟨D,h1,h2,_,h3⟩:=h;exact⟨D,h1,h2.isMap,h3⟩
theorem Jte {ops:Array Oper} {rest:List Oper} {o:Oper} {a:Act} {Q:Exit->Act->World->Prop} (hg:o.guard=none) (m x v:Operand) (t:TypeId) (jf:o.op=Op.mapUpdate t m x v)
  (hk:P.underlying k=some .string) (ht:P.underlying t=some (.map k e)) (he:P.underlying e=some (.int .i64))
  (b n:Nat) (f:ByteArray->Option Int) (c:Nat) (s:ByteArray) (i:Int) (hm:a.eval m = .map (some b)) (ae:Jaj P k e w b n f c) (hn:n<1000000000) (hx:a.eval x = .string s) (hv:a.eval v = .int .i64 i)
  (hs:s.size<=maxLen) (hi : -9223372036854775808<=i/\i<=9223372036854775807)
  (hK:∀w',Jaj P k e w' b (n+1) (upd f s i) (if (f s).isSome then c else c+1)->w.grownBy w' (some b)->wpList P ops Q rest (a.put o.dst undef) w'):wpList P ops Q (o :: rest) a w:=by
 obtain⟨D,h1,h2,hc,h3⟩:=ae;refine wpList_mapUpdate_own w hg m x v t jf k e (string_keyed hk) ht _ b n D hm h1 (by unfold maxLen;omega) _ _ _ hx hv (keyOf_string_mk hk hs) _ [] (plainElem_int he (WalkArith.wf_i64 hi)) fun w' h4 h5=>hK w' ⟨_,h4,h2.put (show WideAt.IsKeyLit (.string s.data.toList) by trivial) _,?_,fun t=>?_⟩ h5
 ·rw [Maps.size_put h2,(h3 s).1,hc]
 ·by_cases aU:t.data=s.data
  ·have dz:WideAt.IsKeyLit (.string s.data.toList):=by trivial
   rw [aU,has_put_same h2.isMap dz,atKey_put_same h2.isMap dz];simp [upd,aU]
  ·have aS:(Lit.string t.data.toList)≠ .string s.data.toList:=by
    intro h;injection h with h;exact aU (by have:=congrArg List.toArray h;simpa using this)
   rw [has_put_other aS,atKey_put_other aS,(h3 t).1,(h3 t).2];simp [upd,aU]
theorem Jjl {ops:Array Oper} {rest:List Oper} {o:Oper} {a:Act} {Q:Exit->Act->World->Prop} (hg:o.guard=none) (m x:Operand) (t:TypeId) (jf:o.op=Op.call {callee:=Callee.builtin Builtin.delete,args:=#[m,x],argTypes:=#[t,k]})
  (hk:P.underlying k=some .string) (ht:P.underlying t=some (.map k e))
  (b n:Nat) (f:ByteArray->Option Int) (c:Nat) (s:ByteArray) (hm:a.eval m = .map (some b)) (ae:Jaj P k e w b n f c) (hx:a.eval x = .string s) (hs:s.size<=maxLen)
  (hK:∀w' c',Jaj P k e w' b n (Jck f s) c'->c'+(if (f s).isSome then 1 else 0)=c->w.grownBy w' (some b)->wpList P ops Q rest (a.put o.dst (.tuple #[])) w'):wpList P ops Q (o :: rest) a w:=by
 obtain⟨D,h1,h2,hc,h3⟩:=ae;refine wpList_delete_own w hg m x t k jf e (string_keyed hk) ht _ b n D hm h1 _ _ hx (keyOf_string_mk hk hs) fun w' h4 h5=>hK w' _ ⟨_,h4,h2.del _,rfl,fun t=>?_⟩ ?_ h5.grown
 ·by_cases aU:t.data=s.data
  ·rw [aU,Maps.has_del_same,Maps.atKey_del_same];simp [Jck,aU]
  ·have aS:(Lit.string t.data.toList)≠ .string s.data.toList:=by
    intro h;injection h with h;exact aU (by have:=congrArg List.toArray h;simpa using this)
   rw [Maps.has_del_other aS,Maps.atKey_del_other aS,(h3 t).1,(h3 t).2];simp [Jck,aU]
 ·have:=Maps.size_del (k:= .string s.data.toList) h2;rw [(h3 s).1] at this;rw [<-hc];exact this
theorem Jjm {ops:Array Oper} {rest:List Oper} {o:Oper} {a:Act} {Q:Exit->Act->World->Prop} (hg:o.guard=none) (m:Operand) (t:TypeId) (jf:o.op=Op.call {callee:=Callee.builtin Builtin.len,args:=#[m],argTypes:=#[t]})
  (ht:P.underlying t=some (.map k e)) (b n:Nat) (f:ByteArray->Option Int) (c:Nat) (hm:a.eval m = .map (some b)) (ae:Jaj P k e w b n f c)
  (hK:wpList P ops Q rest (a.put o.dst (.int .i64 c)) w):wpList P ops Q (o :: rest) a w:=by
 obtain⟨D,h1,h2,hc,h3⟩:=ae;refine wpList_len_own w hg m t jf k e ht _ b n D hm h1 ?_;rw [hc];exact hK
end
def Jn7 (v:Value):Option (DataW Value×List MemPlace):=some (.held v,[])
def Jaz (P:Program) (k:TypeId) (w:World) (b n:Nat) (f:ByteArray->Option Value):Prop:=
 ∃D:DataW Value,w.ownsMap P k Jn7 b n D/\Maps.IsMap D/\
  ∀(s:ByteArray) (z:Value),D.atKey (.string s.data.toList) (.held z) = .held ((f s).getD z)
def Jki (f:ByteArray->Option Value) (s:ByteArray) (v:Value):ByteArray->Option Value:=fun t=>if t.data=s.data then some v else f t
section
variable {P:Program} {k e:TypeId} {w w':World} {b n:Nat} {f:ByteArray->Option Value}
theorem Jaz.made (w:World):Jaz P k (w.alloc (.map #[] 0)) w.heap.size 0 (fun _=>none):=
 ⟨.map [],World.ownsMap_made w P k _,isMap_empty,fun s z=>rfl⟩
theorem Jaz.keep1 (h:Jaz P k w b n f) (hb:w'.heap[b]?=w.heap[b]?):Jaz P k w' b n f:=by
 obtain⟨D,⟨es,clock,hh,F,hs,hD⟩,h2⟩:=h;exact⟨D,⟨es,clock,hb.trans hh,F,hs,hD⟩,h2⟩
theorem Jaz.lt (h:Jaz P k w b n f):b<w.heap.size:=by
 obtain⟨D,h1,_⟩:=h;exact h1.lt
theorem Jaz.bel (h:Jaz P k w b n f) (hb:Below w.heap.size w w'):Jaz P k w' b n f:=h.keep1 (hb.block b h.lt)
theorem Jel {ops:Array Oper} {rest:List Oper} {o:Oper} {a:Act} {Q:Exit->Act->World->Prop} (hg:o.guard=none) (m x:Operand) (t:TypeId) (jf:o.op=Op.lookup t m x false)
  (hk:P.underlying k=some .string) (ht:P.underlying t=some (.map k e)) (z:Value) (hz:(zeroValue e).run P w = .ok z w)
  (b n:Nat) (f:ByteArray->Option Value) (s:ByteArray) (hm:a.eval m = .map (some b)) (ae:Jaz P k w b n f) (hx:a.eval x = .string s) (hs:s.size<=maxLen)
  (hK:wpList P ops Q rest (a.put o.dst ((f s).getD z)) w):wpList P ops Q (o :: rest) a w:=by
 obtain⟨D,h1,h2,h3⟩:=ae;refine wpList_plain hg fun K' hK'=>?_;obtain⟨v,ps,eH,hv⟩:=h1.lookup (string_keyed hk) ht hz (R:=Jn7) rfl (keyOf_string_mk hk hs)
 have he:v=(f s).getD z:=by
  rw [h3 s z] at hv;unfold Jn7 at hv;simp only [Option.some.injEq,Prod.mk.injEq] at hv;have:=hv.1;injection this
 subst he;unfold Oper.wp;simp [execOp,jf,hm,hx,eH,Result.andThen];exact hK' _ _ hK
theorem Jlj {ops:Array Oper} {rest:List Oper} {o:Oper} {a:Act} {Q:Exit->Act->World->Prop} (hg:o.guard=none) (m x v:Operand) (t:TypeId) (jf:o.op=Op.mapUpdate t m x v)
  (hk:P.underlying k=some .string) (ht:P.underlying t=some (.map k e))
  (b n:Nat) (f:ByteArray->Option Value) (s:ByteArray) (i:Value) (hm:a.eval m = .map (some b)) (ae:Jaz P k w b n f) (hn:n<1000000000) (hx:a.eval x = .string s) (hv:a.eval v=i)
  (hs:s.size<=maxLen)
  (hK:∀w',Jaz P k w' b (n+1) (Jki f s i)->w.grownBy w' (some b)->wpList P ops Q rest (a.put o.dst undef) w'):wpList P ops Q (o :: rest) a w:=by
 obtain⟨D,h1,h2,h3⟩:=ae;refine wpList_mapUpdate_own w hg m x v t jf k e (string_keyed hk) ht Jn7 b n D hm h1 (by unfold maxLen;omega) _ _ _ hx hv (keyOf_string_mk hk hs) (.held i) [] rfl fun w' h4 h5=>hK w' ⟨_,h4,h2.put _ _,fun t z=>?_⟩ h5
 by_cases aU:t.data=s.data
 ·have dz:WideAt.IsKeyLit (.string s.data.toList):=by trivial
  rw [aU,atKey_put_same h2 dz];simp [Jki,aU]
 ·have aS:(Lit.string t.data.toList)≠ .string s.data.toList:=by
   intro h;injection h with h;exact aU (by have:=congrArg List.toArray h;simpa using this)
  rw [atKey_put_other aS,h3 t z];simp [Jki,aU]
end
end Go.Proofs.YtdgjplldlfeolaaGreatDoor
namespace Go.Proofs.YtdgjplldlfeolaaGreatDoor
open Go.ChangeShapes Go.WideShapes Go.ChangeAt Go.RowKit Go.Deep
section
variable {H:Type} {enc:TypeId×Value->H} {w:World} {spare:Nat->Bool} {held:Bool}
theorem Jdi:Tryz.prog.cellsOf 3=1:=by kernel_rfl
theorem Ja1:Tryz.prog.cellsOf 9=1:=by kernel_rfl
theorem Jeq:Tryz.prog.cellsOf 81=2:=by kernel_rfl
def Jmh (v:Va):Prop:=v.name.size<=maxLen/\I64 v.type/\I64 v.ck/\v.cn.size<=maxLen
def Jtj (q:Qe):Prop:=q.name.size<=maxLen/\I64 q.delay/\q.first.OK/\q.e.OK
structure Ke5 (p:Pr):Prop where
 name:p.name.size<=maxLen
 ins:∀v∈p.ins,Jmh v
 outs:∀v∈p.outs,Jmh v
 locals:∀v∈p.locals,Jmh v
 eqs:∀q∈p.eqs,Jtj q
end
section
variable {H:Type} {enc:TypeId×Value->H} {P:Program}
theorem Jn4 {f:Func} {s:ChangeSpec} {apart fresh handsOn again:Bool} {W W':World} {args:Array Value} {v:Value} {ds gs:List (DataW H)} {before pa pv:List MemPlace}
  (hW:DataW.Whole enc P f.params.toList s.vars apart W args.toList ds gs before)
  (iE:∀(b:Nat) (sp:Nat->Bool) (hd:Bool),DataW.TrodAll enc P W' b sp hd f.resultTypes.toList (v.resultList f.resultTypes.size) (s.fn H (ds ++ gs)).results [])
  (sc:∀sp:Nat->Bool,(∀p∈before,sp p.block=true)->DataW.TrodAll enc P W' 0 sp true f.params.toList args.toList (s.fn H (ds ++ gs)).args pa)
  (aJ:∀sp:Nat->Bool,(∀p∈before,sp p.block=true)->DataW.TrodVars enc P W' sp s.vars (s.fn H (ds ++ gs)).vars pv)
  (wu:before=pa ++ pv) (hb:Below W.heap.size W W')
  (aw:∀(j:Nat) (t:TypeId) (r:Value),f.resultTypes[j]?=some t->(v.resultList f.resultTypes.size)[j]?=some r->Value.okWide P W' .any 0 t r) :
  s.post enc P f apart fresh handsOn again W args v W':=by
 have am:∀p∈before,p.block<W.heap.size:=fun p hp=>hW.lt p hp;have xh:∀p∈before,(fun b=>decide (b<W.heap.size)) p.block=true:=fun p hp=>by simpa using am p hp
 refine⟨ds,gs,before,[],pa,pv,hW,iE _ _ _,sc _ xh,aJ _ xh,World.keptBut_mono (fun p hp=>⟨hp,?_⟩) (hb.frame (·∈before)),fun _=>?_⟩
 ·rw [wu,List.mem_append] at hp;exact Or.inr hp
 ·obtain⟨_,_,_,_,_,hz,hn⟩:=hW;refine⟨aw,_,_,([] ++ pa) ++ pv,⟨[] ++ pa,pv,trodAll_append (sc _ (fun _ _=>rfl)) (iE _ _ _),aJ _ (fun _ _=>rfl),rfl,?_,?_⟩,?_⟩
  ·intro b off hp;have dV:MemPlace.cell b off∈before:=by rw [wu];simpa using hp
   rw [hb.frozen (am _ dV)];exact hz b off dV
  ·intro ha;have:=hn ha;rw [wu] at this;simpa using this
  ·intro p hp _;rw [wu];simpa using hp
end
theorem Tryz.own:ownKnob Tryz.prog.godebug=none:=by kernel_rfl
theorem Tryz.laidOut:laidOutB Tryz.prog=true:=by kernel_rfl
end Go.Proofs.YtdgjplldlfeolaaGreatDoor
namespace Go.Proofs.YtdgjplldlfeolaaGreatDoor
open Go.RowKit
def W32 (n:Int):Int:=IntKind.i32.wrap n
theorem Jpu (n:Int):W32 n=if 2147483648<=n % 4294967296 then n % 4294967296-4294967296 else n % 4294967296:=by
 unfold W32 IntKind.wrap;simp [IntKind.bits,IntKind.signed]
theorem Jvc (n:Int):I32 (W32 n):=by
 rw [Jpu];unfold I32;split <;> omega
theorem Jbn {n:Int} (h:I32 n):W32 n=n:=by
 unfold I32 at h;rw [Jpu];split <;> omega
def Jkg (b:Bool):Int:=if b=true then 1 else 0
def unF (op a:Int):Int:=if op=1 then W32 (-a) else if op=2 then Jkg (a == 0) else 0
def Jzm (a b:Int):Int:=if b=0 then 0 else W32 (a.tdiv b)
def Kak (op a b:Int):Int:=
 if op=1 then W32 (a+b)
 else if op=2 then W32 (a-b)
 else if op=3 then W32 (a * b)
 else if op=4 then Jzm a b
 else if op=5 then W32 (a-W32 (Jzm a b * b))
 else if op=6 then W32 (a * 2 ^ (b % 32).toNat)
 else if op=7 then a / 2 ^ (b % 32).toNat
 else if op=8 then bits .and .i32 a b
 else if op=9 then bits .or .i32 a b
 else if op=10 then bits .xor .i32 a b
 else if op=11 then Jkg (a == b)
 else if op=12 then Jkg (a != b)
 else if op=13 then Jkg (decide (a<b))
 else if op=14 then Jkg (decide (a<=b))
 else if op=15 then Jkg (decide (b<a))
 else if op=16 then Jkg (decide (b<=a))
 else 0
structure Fr where
 s:Int
 o:Int
 n:Int
 i:Int
 u:Int
def inB (n m:Int):Bool:=decide (0<=n) && decide (n<=m)
def Fr.good (f:Fr):Bool:=inB f.s 24 && inB f.o 16 && inB f.n 16 && inB f.i 8 && inB f.u 8
def Qp (op:Int):Int:=if op=1 then 4 else if op=10\/op=11 then 2 else if 1<op/\op<10 then 1 else 0
def Qj (i:Int×Int):Int:=
 if Qp i.1=0 then 9
 else if Qp i.1=4 then 0
 else if i.1=8/\(i.2<1\/2<i.2) then 9
 else if i.1=9/\(i.2<1\/16<i.2) then 9
 else if Qp i.1=2/\(i.2<0\/65535<i.2) then 10
 else if Qp i.1=1/\(i.2<0\/255<i.2) then 10
 else 0
def Ky (op:Int):Int:=if op=3\/op=5\/op=7\/op=8\/op=11 then 1 else if op=9 then 2 else 0
def Kan (op:Int):Int:=if op=1\/op=2\/op=4\/op=6\/op=8\/op=9 then 1 else 0
def Xn (op:Int) (f:Fr):Int:=if op=2\/op=3 then f.s else if op=4 then f.o else if op=5 then f.n else if op=6 then f.i else if op=7 then f.u else -1
structure Pl where
 met:Bool
 d:Int
 f:Int
def Pl.no:Pl:=⟨false,0,0⟩
def Ja5 (ps:List Pl) (tg:Nat) (d f:Int):Option (List Pl):=
 match ps[tg]? with
 | none=>none
 | some p=>if p.met=true then if p.d=d then some (ps.set tg ⟨true,p.d,max p.f f⟩) else none else some (ps.set tg ⟨true,d,f⟩)
def Jct (f:Fr) (at_:Nat) (i:Int×Int) (ps:List Pl) (dep:Int):Int×List Pl×Int:=
 if Qj i≠0 then(Qj i,ps,dep)
 else if 0<=Xn i.1 f/\Xn i.1 f<=i.2 then(10,ps,dep)
 else if (ps.getD at_ Pl.no).met=false then(13,ps,dep)
 else if (ps.getD at_ Pl.no).d<Ky i.1\/16<(ps.getD at_ Pl.no).d-Ky i.1+Kan i.1 then(12,ps,dep)
 else if (i.1=10\/i.1=11)/\(ps.length:Int)<=at_+1+i.2 then(11,ps,max dep ((ps.getD at_ Pl.no).d-Ky i.1+Kan i.1))
 else
  match (if i.1=10 then some ps else Ja5 ps (at_+1) ((ps.getD at_ Pl.no).d-Ky i.1+Kan i.1) ((ps.getD at_ Pl.no).f+1)) with
  | none=>(12,ps,max dep ((ps.getD at_ Pl.no).d-Ky i.1+Kan i.1))
  | some ps1=>
   if i.1=10\/i.1=11 then
    match Ja5 ps1 ((at_:Int)+1+i.2).toNat ((ps.getD at_ Pl.no).d-Ky i.1+Kan i.1) ((ps.getD at_ Pl.no).f+1) with
    | none=>(12,ps1,max dep ((ps.getD at_ Pl.no).d-Ky i.1+Kan i.1))
    | some ps2=>(0,ps2,max dep ((ps.getD at_ Pl.no).d-Ky i.1+Kan i.1))
   else(0,ps1,max dep ((ps.getD at_ Pl.no).d-Ky i.1+Kan i.1))
def goJ (f:Fr) (n:Nat):Nat->List (Int×Int)->List Pl->Int->(Int×Int)×Int×Int
 | _,[],ps,dep=>if (ps.getD n Pl.no).d≠0 then((0,0),12,n) else((dep,(ps.getD n Pl.no).f),0,0)
 | at_,i :: r,ps,dep=>if (Jct f at_ i ps dep).1≠0 then((0,0),(Jct f at_ i ps dep).1,at_) else goJ f n (at_+1) r (Jct f at_ i ps dep).2.1 (Jct f at_ i ps dep).2.2
def Jdk (n:Nat):List Pl:=⟨true,0,0⟩ :: List.replicate n Pl.no
def Yi (c:List (Int×Int)) (f:Fr):(Int×Int)×Int×Int:=
 if f.good=false then((0,0),1,0)
 else if 600<c.length then((0,0),3,0)
 else goJ f c.length 0 c (Jdk c.length) 0
structure Jaa (k n:Nat) (dep:Int) (ps:List Pl):Prop where
 len:ps.length=n+1
 dep0:0<=dep/\dep<=16
 all:∀(j:Nat) (p:Pl),ps[j]?=some p->0<=p.d/\p.d<=16/\0<=p.f/\p.f<=k/\(p.met=false->p.d=0/\p.f=0)
theorem Jaa.start (n:Nat):Jaa 0 n 0 (Jdk n):=by
 refine⟨by simp [Jdk],by omega,fun j p h=>?_⟩;unfold Jdk at h
 cases j with
 | zero=>simp at h;subst h;simp
 | succ j=>
  rw [List.getElem?_cons_succ,List.getElem?_replicate] at h
  split at h
  ·injection h with h;subst h;simp [Pl.no]
  ·cases h
theorem Jaa.get {k n:Nat} {dep:Int} {ps:List Pl} (h:Jaa k n dep ps) (j:Nat):0<=(ps.getD j Pl.no).d/\(ps.getD j Pl.no).d<=16/\0<=(ps.getD j Pl.no).f/\(ps.getD j Pl.no).f<=k/\((ps.getD j Pl.no).met=false->(ps.getD j Pl.no).d=0/\(ps.getD j Pl.no).f=0):=by
 rw [List.getD_eq_getElem?_getD]
 cases hx:ps[j]? with
 | none=>simp [Pl.no]
 | some p=>exact h.all j p hx
theorem Jaa.more {k k' n:Nat} {dep:Int} {ps:List Pl} (h:Jaa k n dep ps) (hk:k<=k'):Jaa k' n dep ps:=
 ⟨h.len,h.dep0,fun j p hp=>by have:=h.all j p hp;exact⟨this.1,this.2.1,this.2.2.1,by omega,this.2.2.2.2⟩⟩
theorem Jaa.deeper {k n:Nat} {dep d:Int} {ps:List Pl} (h:Jaa k n dep ps) (hd:0<=d/\d<=16):Jaa k n d ps:=⟨h.len,hd,h.all⟩
theorem Jaa.come {k n:Nat} {dep d f:Int} {ps ps':List Pl} {tg:Nat} (h:Jaa k n dep ps) (hc:Ja5 ps tg d f=some ps') (hd:0<=d/\d<=16) (hf:0<=f/\f<=k):Jaa k n dep ps':=by
 unfold Ja5 at hc
 cases hx:ps[tg]? with
 | none=>rw [hx] at hc;cases hc
 | some p=>
  rw [hx] at hc;have am:=(List.getElem?_eq_some_iff.1 hx).1;have hp:=h.all tg p hx;dsimp only at hc
  have key:∀q:Pl,0<=q.d/\q.d<=16->0<=q.f/\q.f<=k->q.met=true->Jaa k n dep (ps.set tg q):=fun q h1 h2 h3=>⟨by rw [List.length_set];exact h.len,h.dep0,fun j r hj=>by
   rw [List.getElem?_set] at hj
   by_cases hjj:tg=j
   ·rw [if_pos hjj,if_pos am] at hj;injection hj with hj;subst hj;exact⟨h1.1,h1.2,h2.1,h2.2,fun he=>by rw [h3] at he;cases he⟩
   ·rw [if_neg hjj] at hj;exact h.all j r hj⟩
  split at hc
  ·split at hc
   ·injection hc with hc;subst hc;exact key _ ⟨hp.1,hp.2.1⟩ (by dsimp only;omega) rfl
   ·cases hc
  ·injection hc with hc;subst hc;exact key _ hd hf rfl
theorem Jjp (op:Int):0<=Ky op/\Ky op<=2:=by
  unfold Ky;repeat' split
  all_goals omega
theorem Jj1 (op:Int):0<=Kan op/\Kan op<=1:=by unfold Kan;split <;> omega
theorem Jaa.one {k n:Nat} {dep:Int} {ps:List Pl} {f:Fr} {at_:Nat} {i:Int×Int} (h:Jaa k n dep ps) (h0:(Jct f at_ i ps dep).1=0):Jaa (k+1) n (Jct f at_ i ps dep).2.2 (Jct f at_ i ps dep).2.1:=by
 have hg:=h.get at_;have ht:=Jjp i.1;have hv:=Jj1 i.1;have oH:=h.dep0
 revert h0
 unfold Jct
 split
 ·intro h0;exact absurd h0 (by assumption)
 split
 ·intro h0;exact absurd (show(10:Int)=0 from h0) (by decide)
 split
 ·intro h0;exact absurd (show(13:Int)=0 from h0) (by decide)
 split
 ·intro h0;exact absurd (show(12:Int)=0 from h0) (by decide)
 split
 ·intro h0;exact absurd (show(11:Int)=0 from h0) (by decide)
 rename_i aS _;have hd:0<=(ps.getD at_ Pl.no).d-Ky i.1+Kan i.1/\(ps.getD at_ Pl.no).d-Ky i.1+Kan i.1<=16:=by omega
 have hf:0<=(ps.getD at_ Pl.no).f+1/\(ps.getD at_ Pl.no).f+1<=((k+1:Nat):Int):=by omega
 have hm:0<=max dep ((ps.getD at_ Pl.no).d-Ky i.1+Kan i.1)/\max dep ((ps.getD at_ Pl.no).d-Ky i.1+Kan i.1)<=16:=by omega
 generalize (ps.getD at_ Pl.no).d-Ky i.1+Kan i.1=d at hd hm;generalize (ps.getD at_ Pl.no).f+1=fu at hf;have h1:=h.more (Nat.le_succ k)
 cases hc:(if i.1=10 then some ps else Ja5 ps (at_+1) d fu) with
 | none=>intro h0;exact absurd (show(12:Int)=0 from h0) (by decide)
 | some ps1=>
  have h2:Jaa (k+1) n dep ps1:=by
   split at hc
   ·injection hc with hc;subst hc;exact h1
   ·exact h1.come hc hd hf
  dsimp only
  split
  ·cases dm:Ja5 ps1 ((at_:Int)+1+i.2).toNat d fu with
   | none=>intro h0;exact absurd (show(12:Int)=0 from h0) (by decide)
   | some ps2=>exact fun _=>(h2.come dm hd hf).deeper hm
  ·exact fun _=>h2.deeper hm
def leB:Nat->Nat->List Int
 | 0,_=>[]
 | w+1,n=>((n % 256:Nat):Int) :: leB w (n / 256)
theorem Y4:∀w n,(leB w n).length=w
 | 0,_=>rfl
 | w+1,n=>by rw [leB,List.length_cons,Y4 w]
def Xh (a:Int):Nat:=(a % 4294967296).toNat
theorem Jne (a:Int):Xh a<4294967296:=by unfold Xh;omega
def Jdm (i:Int×Int):List Int:=i.1 :: leB (Qp i.1).toNat (Xh i.2)
def Ja7 (c:List (Int×Int)):List Int:=c.flatMap Jdm
def Je9 (l:List Int):List Int:=l.flatMap fun v=>leB 4 (Xh v)
def Jcs (x:List Int):List Int:=leB 2 x.length ++ x
theorem Jlt (op:Int):0<=Qp op/\Qp op<=4:=by
  unfold Qp;repeat' split
  all_goals omega
theorem Jnq (i:Int×Int):(Jdm i).length<=5:=by
 unfold Jdm;have:=Jlt i.1;rw [List.length_cons,Y4];omega
theorem Jit (c:List (Int×Int)):(Ja7 c).length<=5 * c.length:=by
 unfold Ja7
 induction c with
 | nil=>simp
 | cons i c ih=>
  have:=Jnq i;rw [List.flatMap_cons,List.length_append,List.length_cons];omega
theorem Jsn (l:List Int):(Je9 l).length=4 * l.length:=by
 unfold Je9
 induction l with
 | nil=>simp
 | cons i c ih=>rw [List.flatMap_cons,List.length_append,List.length_cons,Y4];omega
theorem Js9 (c:List (Int×Int)) (i:Int×Int):Ja7 (c ++ [i])=Ja7 c ++ Jdm i:=by unfold Ja7;simp
end Go.Proofs.YtdgjplldlfeolaaGreatDoor
