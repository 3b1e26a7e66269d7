/- Lemmas. -/
import Derived.Test.YtknfcamdfdfoeaaGreatDoorMac
import Derived.Test.YtknfcamdfdfoeaaGreatDoorZ03
import Derived.Maps.OwnSet
import Derived.Test.YtknfcamdfdfoeaaGreatDoorZ02
import Derived.Test.YtknfcamdfdfoeaaGreatDoorZ00
import Derived.Maps.Keyed
import Derived.DeepKeys4
import Derived.WideKeyEntry
set_option linter.unusedVariables false
set_option linter.unusedSimpArgs false
set_option maxRecDepth 100000
set_option maxHeartbeats 64000000
namespace Go.Proofs.YtknfcamdfdfoeaaGreatDoor
open Go.RowKit Go.Sort Go.Maps Go.ChangeMaps Go.WideMaps
def Jaj (P:Program) (k e:TypeId) (w:World) (b n:Nat) (f:ByteArray->Option Int) (c:Nat):Prop:=
 ∃D:DataW Unit,w.ownsMap P k (plainElem P e) b n D/\Maps.Tidy D/\Maps.size D=c/\
  ∀s:ByteArray,Maps.has D (.string s.data.toList)=(f s).isSome/\D.atKey (.string s.data.toList) (.lit (.int .i64 0)) = .lit (.int .i64 ((f s).getD 0))
def Jck (f:ByteArray->Option Int) (s:ByteArray):ByteArray->Option Int:=fun t=>if t.data=s.data then none else f t
section
variable {P:Program} {k e:TypeId} {w w':World} {b n c:Nat} {f:ByteArray->Option Int}
theorem Jaj.made (w:World):Jaj P k e (w.alloc (.map #[] 0)) w.heap.size 0 (fun _=>none) 0:=
 ⟨.map [],World.ownsMap_made w P k _,Maps.tidy_empty,rfl,fun s=>⟨rfl,rfl⟩⟩
theorem Jaj.keep1 (h:Jaj P k e w b n f c) (hb:w'.heap[b]?=w.heap[b]?):Jaj P k e w' b n f c:=by
 exact Uc4
theorem Jaj.lt (h:Jaj P k e w b n f c):b<w.heap.size:=by
 obtain⟨D,h1,_⟩:=h;exact h1.lt
theorem Jaj.bel (h:Jaj P k e w b n f c) (hb:Below w.heap.size w w'):Jaj P k e w' b n f c:=h.keep1 (hb.block b h.lt)
theorem Jaj.plain (h:Jaj P k e w b n f c):Jz P k e w b n f:=by
 obtain⟨D,h1,h2,_,h3⟩:=h;exact⟨D,h1,h2.isMap,h3⟩
theorem Jte {ops:Array Oper} {rest:List Oper} {o:Oper} {a:Act} {Q:Exit->Act->World->Prop} (hg:o.guard=none) (m x v:Operand) (t:TypeId) (jf:o.op=Op.mapUpdate t m x v)
  (hk:P.underlying k=some .string) (ht:P.underlying t=some (.map k e)) (he:P.underlying e=some (.int .i64))
  (b n:Nat) (f:ByteArray->Option Int) (c:Nat) (s:ByteArray) (i:Int) (hm:a.eval m = .map (some b)) (ae:Jaj P k e w b n f c) (hn:n<1000000000) (hx:a.eval x = .string s) (hv:a.eval v = .int .i64 i)
  (hs:s.size<=maxLen) (hi : -9223372036854775808<=i/\i<=9223372036854775807)
  (hK:∀w',Jaj P k e w' b (n+1) (upd f s i) (if (f s).isSome then c else c+1)->w.grownBy w' (some b)->wpList P ops Q rest (a.put o.dst undef) w'):wpList P ops Q (o :: rest) a w:=by
 obtain⟨D,h1,h2,hc,h3⟩:=ae;refine wpList_mapUpdate_own w hg m x v t jf k e (string_keyed hk) ht _ b n D hm h1 U2 _ _ _ hx hv (keyOf_string_mk hk hs) _ [] (plainElem_int he (WalkArith.wf_i64 hi)) fun w' h4 h5=>hK w' ⟨_,h4,h2.put (show WideAt.IsKeyLit (.string s.data.toList) by trivial) _,?_,fun t=>?_⟩ h5
 ·rw [Maps.size_put h2,(h3 s).1,hc]
 ·by_cases aU:t.data=s.data
  ·have dz:WideAt.IsKeyLit (.string s.data.toList):=Th;rw [aU,has_put_same h2.isMap dz,atKey_put_same h2.isMap dz];simp [upd,aU]
  ·exact Ubk
theorem Jjl {ops:Array Oper} {rest:List Oper} {o:Oper} {a:Act} {Q:Exit->Act->World->Prop} (hg:o.guard=none) (m x:Operand) (t:TypeId) (jf:o.op=Op.call {callee:=Callee.builtin Builtin.delete,args:=#[m,x],argTypes:=#[t,k]})
  (hk:P.underlying k=some .string) (ht:P.underlying t=some (.map k e))
  (b n:Nat) (f:ByteArray->Option Int) (c:Nat) (s:ByteArray) (hm:a.eval m = .map (some b)) (ae:Jaj P k e w b n f c) (hx:a.eval x = .string s) (hs:s.size<=maxLen)
  (hK:∀w' c',Jaj P k e w' b n (Jck f s) c'->c'+(if (f s).isSome then 1 else 0)=c->w.grownBy w' (some b)->wpList P ops Q rest (a.put o.dst (.tuple #[])) w'):wpList P ops Q (o :: rest) a w:=by
 obtain⟨D,h1,h2,hc,h3⟩:=ae;refine wpList_delete_own w hg m x t k jf e (string_keyed hk) ht _ b n D hm h1 _ _ hx (keyOf_string_mk hk hs) fun w' h4 h5=>hK w' _ ⟨_,h4,h2.del _,rfl,fun t=>?_⟩ ?_ h5.grown
 ·by_cases aU:t.data=s.data
  ·rw [aU,Maps.has_del_same,Maps.atKey_del_same];simp [Jck,aU]
  ·have aS:(Lit.string t.data.toList)≠ .string s.data.toList:=by
    intro h;injection h with h;exact aU L9
   rw [Maps.has_del_other aS,Maps.atKey_del_other aS,(h3 t).1,(h3 t).2];simp [Jck,aU]
 ·have:=Maps.size_del (k:= .string s.data.toList) h2;rw [(h3 s).1] at this;rw [<-hc];exact this
theorem Jjm {ops:Array Oper} {rest:List Oper} {o:Oper} {a:Act} {Q:Exit->Act->World->Prop} (hg:o.guard=none) (m:Operand) (t:TypeId) (jf:o.op=Op.call {callee:=Callee.builtin Builtin.len,args:=#[m],argTypes:=#[t]})
  (ht:P.underlying t=some (.map k e)) (b n:Nat) (f:ByteArray->Option Int) (c:Nat) (hm:a.eval m = .map (some b)) (ae:Jaj P k e w b n f c)
  (hK:wpList P ops Q rest (a.put o.dst (.int .i64 c)) w):wpList P ops Q (o :: rest) a w:=by
 obtain⟨D,h1,h2,hc,h3⟩:=ae;refine wpList_len_own w hg m t jf k e ht _ b n D hm h1 ?_;rw [hc];exact hK
end
def Jn7 (v:Value):Option (DataW Value×List MemPlace):=some (.held v,[])
def Jaz (P:Program) (k:TypeId) (w:World) (b n:Nat) (f:ByteArray->Option Value):Prop:=
 ∃D:DataW Value,w.ownsMap P k Jn7 b n D/\Maps.IsMap D/\
  ∀(s:ByteArray) (z:Value),D.atKey (.string s.data.toList) (.held z) = .held ((f s).getD z)
def Jki (f:ByteArray->Option Value) (s:ByteArray) (v:Value):ByteArray->Option Value:=fun t=>if t.data=s.data then some v else f t
section
variable {P:Program} {k e:TypeId} {w w':World} {b n:Nat} {f:ByteArray->Option Value}
theorem Jaz.made (w:World):Jaz P k (w.alloc (.map #[] 0)) w.heap.size 0 (fun _=>none):=
 ⟨.map [],World.ownsMap_made w P k _,isMap_empty,fun s z=>rfl⟩
theorem Jaz.keep1 (h:Jaz P k w b n f) (hb:w'.heap[b]?=w.heap[b]?):Jaz P k w' b n f:=by
 exact Uc4
theorem Jaz.lt (h:Jaz P k w b n f):b<w.heap.size:=by
 obtain⟨D,h1,_⟩:=h;exact h1.lt
theorem Jaz.bel (h:Jaz P k w b n f) (hb:Below w.heap.size w w'):Jaz P k w' b n f:=h.keep1 (hb.block b h.lt)
theorem Jel {ops:Array Oper} {rest:List Oper} {o:Oper} {a:Act} {Q:Exit->Act->World->Prop} (hg:o.guard=none) (m x:Operand) (t:TypeId) (jf:o.op=Op.lookup t m x false)
  (hk:P.underlying k=some .string) (ht:P.underlying t=some (.map k e)) (z:Value) (hz:(zeroValue e).run P w = .ok z w)
  (b n:Nat) (f:ByteArray->Option Value) (s:ByteArray) (hm:a.eval m = .map (some b)) (ae:Jaz P k w b n f) (hx:a.eval x = .string s) (hs:s.size<=maxLen)
  (hK:wpList P ops Q rest (a.put o.dst ((f s).getD z)) w):wpList P ops Q (o :: rest) a w:=by
 obtain⟨D,h1,h2,h3⟩:=ae;refine wpList_plain hg fun K' hK'=>?_;obtain⟨v,ps,eH,hv⟩:=h1.lookup (string_keyed hk) ht hz (R:=Jn7) rfl (keyOf_string_mk hk hs)
 have he:v=(f s).getD z:=by
  rw [h3 s z] at hv;unfold Jn7 at hv;simp only [Option.some.injEq,Prod.mk.injEq] at hv;have:=hv.1;injection this
 subst he;unfold Oper.wp;simp [execOp,jf,hm,hx,eH,Result.andThen];exact hK' _ _ hK
theorem Jlj {ops:Array Oper} {rest:List Oper} {o:Oper} {a:Act} {Q:Exit->Act->World->Prop} (hg:o.guard=none) (m x v:Operand) (t:TypeId) (jf:o.op=Op.mapUpdate t m x v)
  (hk:P.underlying k=some .string) (ht:P.underlying t=some (.map k e))
  (b n:Nat) (f:ByteArray->Option Value) (s:ByteArray) (i:Value) (hm:a.eval m = .map (some b)) (ae:Jaz P k w b n f) (hn:n<1000000000) (hx:a.eval x = .string s) (hv:a.eval v=i)
  (hs:s.size<=maxLen)
  (hK:∀w',Jaz P k w' b (n+1) (Jki f s i)->w.grownBy w' (some b)->wpList P ops Q rest (a.put o.dst undef) w'):wpList P ops Q (o :: rest) a w:=by
 obtain⟨D,h1,h2,h3⟩:=ae;refine wpList_mapUpdate_own w hg m x v t jf k e (string_keyed hk) ht Jn7 b n D hm h1 U2 _ _ _ hx hv (keyOf_string_mk hk hs) (.held i) [] rfl fun w' h4 h5=>hK w' ⟨_,h4,h2.put _ _,fun t z=>?_⟩ h5
 by_cases aU:t.data=s.data
 ·have dz:WideAt.IsKeyLit (.string s.data.toList):=Th;rw [aU,atKey_put_same h2 dz];simp [Jki,aU]
 ·have aS:(Lit.string t.data.toList)≠ .string s.data.toList:=by
   intro h;injection h with h;exact aU L9
  rw [atKey_put_other aS,h3 t z];simp [Jki,aU]
end
structure Jer (P:Program) (k:TypeId) {K:Type} (ok:K->Prop) (kv:K->Value) (kl:K->Lit):Prop where
 keyed:Keyed P k
 read:∀x,ok x->keyOf P k (kv x)=some (kl x)
 inj:∀x y,ok x->ok y->kl x=kl y->x=y
def Q3 (P:Program) (k e:TypeId) (q:IntKind) {K:Type} (ok:K->Prop) (kl:K->Lit) (w:World) (b n:Nat) (f:K->Option Int) (c:Nat):Prop:=
 ∃D:DataW Unit,w.ownsMap P k (plainElem P e) b n D/\Maps.Tidy D/\Maps.size D=c/\
  ∀x,ok x->Maps.has D (kl x)=(f x).isSome/\D.atKey (kl x) (.lit (.int q 0)) = .lit (.int q ((f x).getD 0))
section
variable {P:Program} {k e:TypeId} {q:IntKind} {K:Type} {ok:K->Prop} {kv:K->Value} {kl:K->Lit} {w w':World} {b n c:Nat} {f:K->Option Int}
theorem Q3.made (w:World):Q3 P k e q ok kl (w.alloc (.map #[] 0)) w.heap.size 0 (fun _=>none) 0:=
 ⟨.map [],World.ownsMap_made w P k _,Maps.tidy_empty,rfl,fun x _=>⟨rfl,rfl⟩⟩
theorem Q3.lt (h:Q3 P k e q ok kl w b n f c):b<w.heap.size:=by
 obtain⟨D,h1,_⟩:=h;exact h1.lt
theorem Q3.keep1 (h:Q3 P k e q ok kl w b n f c) (hb:w'.heap[b]?=w.heap[b]?):Q3 P k e q ok kl w' b n f c:=by
 exact Uc4
theorem Q3.bel (h:Q3 P k e q ok kl w b n f c) (hb:Below w.heap.size w w'):Q3 P k e q ok kl w' b n f c:=h.keep1 (hb.block b h.lt)
theorem Q3.more (h:Q3 P k e q ok kl w b n f c) {m:Nat} (hm:n<=m):Q3 P k e q ok kl w b m f c:=by
 obtain⟨D,h1,h2⟩:=h;exact⟨D,h1.mono hm,h2⟩
theorem Q3.same (h:Q3 P k e q ok kl w b n f c) {g:K->Option Int} (hg:∀x,ok x->g x=f x):Q3 P k e q ok kl w b n g c:=by
 obtain⟨D,h1,h2,h3,h4⟩:=h;exact⟨D,h1,h2,h3,fun x hx=>by rw [hg x hx];exact h4 x hx⟩
theorem Jr3 (ks:Jer P k ok kv kl) {ops:Array Oper} {rest:List Oper} {o:Oper} {a:Act} {Q:Exit->Act->World->Prop} (hg:o.guard=none) (m x v:Operand) (t:TypeId) (jf:o.op=Op.mapUpdate t m x v)
  (ht:P.underlying t=some (.map k e)) (he:P.underlying e=some (.int q))
  (b n:Nat) (f:K->Option Int) (c:Nat) (s:K) (i:Int) (hm:a.eval m = .map (some b)) (ae:Q3 P k e q ok kl w b n f c) (hn:n<1000000000) (hx:a.eval x=kv s) (hv:a.eval v = .int q i)
  (hs:ok s) (hi:(Lit.int q i).wf=true) (f':K->Option Int) (db:f' s=some i) (gO:∀y,ok y->y≠s->f' y=f y)
  (hK:∀w',Q3 P k e q ok kl w' b (n+1) f' (if (f s).isSome then c else c+1)->w.grownBy w' (some b)->wpList P ops Q rest (a.put o.dst undef) w'):wpList P ops Q (o :: rest) a w:=by
 obtain⟨D,h1,h2,hc,h3⟩:=ae;have fR:WideAt.IsKeyLit (kl s):=ks.keyed.key (ks.read s hs);refine wpList_mapUpdate_own w hg m x v t jf k e ks.keyed ht _ b n D hm h1 U2 _ _ _ hx hv (ks.read s hs) _ [] (plainElem_int he hi) fun w' h4 h5=>hK w' ⟨_,h4,h2.put fR _,?_,fun y hy=>?_⟩ h5
 ·rw [Maps.size_put h2,(h3 s hs).1,hc]
 ·by_cases oJ:y=s
  ·subst oJ;rw [has_put_same h2.isMap fR,atKey_put_same h2.isMap fR,db];exact Ul
  ·have aS:kl y≠kl s:=fun h=>oJ (ks.inj y s hy hs h);rw [has_put_other aS,atKey_put_other aS,(h3 y hy).1,(h3 y hy).2,gO y hy oJ];exact⟨rfl,rfl⟩
end
def okS (s:ByteArray):Prop:=s.size<=maxLen
def klS (s:ByteArray):Lit:= .string s.data.toList
theorem Jc2 {P:Program} {k:TypeId} (hk:P.underlying k=some .string):Jer P k okS Value.string klS:=
 ⟨string_keyed hk,fun _ hs=>keyOf_string_mk hk hs,fun x y _ _ h=>by
  unfold klS at h;injection h with h
  ext1
  have:=congrArg List.toArray h;simpa using this⟩
def okC (c:Int×ByteArray):Prop:=I64 c.1/\c.2.size<=maxLen
def kvC (c:Int×ByteArray):Value:= .agg #[.int .i64 c.1,.string c.2]
def klC (c:Int×ByteArray):Lit:= .string (keyBytes [.int .i64 c.1,.string c.2.data.toList])
theorem Jok {n:Int} (h:I64 n):(Lit.int .i64 n).wf=true:=by
 unfold I64 at h;simp [Lit.wf,IntKind.min,IntKind.max,IntKind.signed,IntKind.bits];omega
theorem Jrm {x y:Int×ByteArray} (hx:okC x) (hy:okC y) (h:klC x=klC y):x=y:=by
 unfold klC at h;injection h with h
 have hw:∀z:Int×ByteArray,okC z->∀a∈[Lit.int .i64 z.1,Lit.string z.2.data.toList],a.keyWf:=by
  intro z hz a ha;simp only [List.mem_cons,List.not_mem_nil,or_false] at ha
  rcases ha with rfl|rfl
  ·exact Jok hz.1
  ·show z.2.data.toList.length<=maxLen;simpa using hz.2
 have:=keyBytes_inj (l:=[.int .i64 x.1,.string x.2.data.toList]) (l':=[.int .i64 y.1,.string y.2.data.toList]) ⟨rfl,trivial,trivial⟩ (hw x hx) (hw y hy) h;injection this with h1 h2;injection h1 with _ h1;injection h2 with h2;injection h2 with h2;refine Prod.ext h1 ?_
 ext1
 have:=congrArg List.toArray h2;simpa using this
theorem Jp8:(55:TypeId)<Tryz.prog.types.size:=of_decide_eq_true Ug
theorem Jpk:KeyLaw Tryz.prog 55:=deep_law_laid Tryz.laidOut (m:=3) Ua Jp8 Ug Ug
theorem Juf (c:Int×ByteArray) (hc:okC c):keyOf Tryz.prog 55 (kvC c)=some (klC c):=by
 obtain⟨h1,h2⟩:=hc;have hk:Tryz.prog.keyType 55=true:=Ug
 have hf:(kvC c).formed Tryz.prog 55=true:=by
  unfold kvC Value.formed;rw [Tryz.underlying55,Jeq];exact Gd
 have hw:=Jok h1
 have hl:Tryz.prog.keyLits (Tryz.prog.types.size+1) 55 (kvC c).cells.toList=some [.int .i64 c.1,.string c.2.data.toList]:=by
  obtain⟨n,hn⟩:∃n,Tryz.prog.types.size=n+1:=⟨Tryz.prog.types.size-1,(Nat.succ_pred_eq_of_pos (Nat.lt_of_le_of_lt (Nat.zero_le _) Jp8)).symm⟩;rw [hn];unfold Program.keyLits;rw [Tryz.underlying55];simp [kvC,Value.cells,Jeq,Jdi,Ja1,Program.keyLits,Tryz.underlying3,Tryz.underlying9,hw,h2]
 unfold keyOf;rw [Tryz.underlying55];simp only [hk,hf,hl,Bool.and_self,if_true,Option.map_some];exact Gd
theorem Jl0:Jer Tryz.prog 55 okC kvC klC:=⟨Keyed.of_law Jpk,Juf,fun _ _=>Jrm⟩
section
variable {P:Program} {k e:TypeId} {q:IntKind} {K:Type} {ok:K->Prop} {kv:K->Value} {kl:K->Lit} {w:World}
theorem Jcb (ks:Jer P k ok kv kl) {t:TypeId} (ht:P.underlying t=some (.map k e)) (he:P.underlying e=some (.int q)) (hz:(zeroValue e).run P w = .ok (.int q 0) w)
  {b n:Nat} {f:K->Option Int} {c:Nat} {s:K} {x:Value} (hx:x=kv s) (ae:Q3 P k e q ok kl w b n f c) (hs:ok s) {r:Int} (hr:(f s).getD 0=r):(Instr.lookup t (.map (some b)) x false).run P w = .ok (.int q r) w:=by
 subst hx;obtain⟨D,h1,h2,_,h3⟩:=ae;obtain⟨c,eH,aY,lD⟩:=h1.lookup_int ks.keyed ht he hz (ks.read s hs);rw [(h3 s hs).2] at aY;have hc:(f s).getD 0=c:=by injection aY with aY;injection aY
 rw [eH,<-hc,hr]
end
theorem Q3.drew {P:Program} {k e:TypeId} {q:IntKind} {K:Type} {ok:K->Prop} {kl:K->Lit} {w:World} {b n c:Nat} {f:K->Option Int} (h:Q3 P k e q ok kl w b n f c):Q3 P k e q ok kl w.drew b n f c:=h.bel (Jh (Below.refl _ _))
structure Jld (R:Value->Option (DataW Unit×List MemPlace)) {V:Type} (okv:V->Prop) (vv:V->Value) (vl:V->Lit):Prop where
 read:∀v,okv v->R (vv v)=some (.lit (vl v),[])
 back:∀x v ps,okv v->R x=some (.lit (vl v),ps)->x=vv v
def Qd (P:Program) (k:TypeId) (R:Value->Option (DataW Unit×List MemPlace)) {K V:Type} (ok:K->Prop) (kl:K->Lit) (okv:V->Prop) (vl:V->Lit) (z:V) (w:World) (b n:Nat) (f:K->Option V) (c:Nat):Prop:=
 ∃D:DataW Unit,w.ownsMap P k R b n D/\Maps.Tidy D/\Maps.size D=c/\
  ∀x,ok x->(Maps.has D (kl x)=(f x).isSome/\D.atKey (kl x) (.lit (vl z)) = .lit (vl ((f x).getD z)))/\okv ((f x).getD z)
section
variable {P:Program} {k e:TypeId} {R:Value->Option (DataW Unit×List MemPlace)} {K V:Type} {ok:K->Prop} {kv:K->Value} {kl:K->Lit} {okv:V->Prop} {vv:V->Value} {vl:V->Lit} {z:V} {w w':World} {b n c:Nat} {f:K->Option V}
theorem Qd.made (hz:okv z) (w:World):Qd P k R ok kl okv vl z (w.alloc (.map #[] 0)) w.heap.size 0 (fun _=>none) 0:=
 ⟨.map [],World.ownsMap_made w P k _,Maps.tidy_empty,rfl,fun x _=>⟨⟨rfl,rfl⟩,hz⟩⟩
theorem Qd.lt (h:Qd P k R ok kl okv vl z w b n f c):b<w.heap.size:=by
 obtain⟨D,h1,_⟩:=h;exact h1.lt
theorem Qd.keep1 (h:Qd P k R ok kl okv vl z w b n f c) (hb:w'.heap[b]?=w.heap[b]?):Qd P k R ok kl okv vl z w' b n f c:=by
 exact Uc4
theorem Qd.bel (h:Qd P k R ok kl okv vl z w b n f c) (hb:Below w.heap.size w w'):Qd P k R ok kl okv vl z w' b n f c:=h.keep1 (hb.block b h.lt)
theorem Qd.drew (h:Qd P k R ok kl okv vl z w b n f c):Qd P k R ok kl okv vl z w.drew b n f c:=h.bel (Jh (Below.refl _ _))
theorem Qd.more (h:Qd P k R ok kl okv vl z w b n f c) {m:Nat} (hm:n<=m):Qd P k R ok kl okv vl z w b m f c:=by
 obtain⟨D,h1,h2⟩:=h;exact⟨D,h1.mono hm,h2⟩
theorem Qd.same (h:Qd P k R ok kl okv vl z w b n f c) {g:K->Option V} (hg:∀x,ok x->g x=f x):Qd P k R ok kl okv vl z w b n g c:=by
 obtain⟨D,h1,h2,h3,h4⟩:=h;exact⟨D,h1,h2,h3,fun x hx=>by rw [hg x hx];exact h4 x hx⟩
theorem Ji1 (ks:Jer P k ok kv kl) (vs:Jld R okv vv vl) {t:TypeId} (ht:P.underlying t=some (.map k e)) (hz:(zeroValue e).run P w = .ok (vv z) w) (jB:okv z)
  {s:K} {x:Value} (hx:x=kv s) (ae:Qd P k R ok kl okv vl z w b n f c) (hs:ok s) {r:V} (hr:(f s).getD z=r):(Instr.lookup t (.map (some b)) x false).run P w = .ok (vv r) w:=by
 subst hx;obtain⟨D,h1,h2,_,h3⟩:=ae;obtain⟨v,ps,eH,hv⟩:=h1.lookup ks.keyed ht hz (vs.read z jB) (ks.read s hs);rw [(h3 s hs).1.2] at hv;rw [eH,vs.back v _ ps (h3 s hs).2 hv,hr]
theorem Qd.laid (ks:Jer P k ok kv kl) {D:DataW Unit} {s:K} (hs:ok s) {v:V} (hv:okv v) {m:Nat} (h2:Maps.Tidy D)
  (h3:Maps.size D=c) (h4:∀x,ok x->(Maps.has D (kl x)=(f x).isSome/\D.atKey (kl x) (.lit (vl z)) = .lit (vl ((f x).getD z)))/\okv ((f x).getD z))
  {f':K->Option V} (db:f' s=some v) (gO:∀y,ok y->y≠s->f' y=f y) (h5:w'.ownsMap P k R b m (D.put (kl s) (.lit (vl v)))):Qd P k R ok kl okv vl z w' b m f' (if (f s).isSome then c else c+1):=by
 have fR:WideAt.IsKeyLit (kl s):=ks.keyed.key (ks.read s hs);refine⟨_,h5,h2.put fR _,by rw [Maps.size_put h2,(h4 s hs).1.1,h3],fun y hy=>?_⟩
 by_cases oJ:y=s
 ·subst oJ;rw [has_put_same h2.isMap fR,atKey_put_same h2.isMap fR,db];exact⟨⟨rfl,rfl⟩,hv⟩
 ·have aS:kl y≠kl s:=fun h=>oJ (ks.inj y s hy hs h);rw [has_put_other aS,atKey_put_other aS,(h4 y hy).1.1,(h4 y hy).1.2,gO y hy oJ];exact⟨⟨rfl,rfl⟩,(h4 y hy).2⟩
theorem Qd.entry (ks:Jer P k ok kv kl) (kd:KeyLaw P k) (vs:Jld R okv vv vl) {t:TypeId} (ht:P.underlying t=some (.map k e)) (hz:∀u:World,(zeroValue e).run P u = .ok (vv z) u)
  {s:K} (ae:Qd P k R ok kl okv vl z w b n f c) (hs:ok s) (hn:n<1000000000) :
  ∃v0 st w1,(Instr.mapEntry t (.map (some b)) (kv s)).run P w = .ok (.tuple #[v0,st]) w1/\w.grownBy w1 (some b)/\w1.heap.size=w.heap.size/\
   ∀w2:World,w2.heap[b]?=w1.heap[b]?->∀v,okv v->∀f':K->Option V,f' s=some v->(∀y,ok y->y≠s->f' y=f y)->
    ∃w3,(Instr.entryStore t (.map (some b)) st (vv v)).run P w2 = .ok () w3/\Qd P k R ok kl okv vl z w3 b (n+1) f' (if (f s).isSome then c else c+1)/\w2.grownBy w3 (some b)/\w3.heap.size=w2.heap.size:=by
 obtain⟨D,h1,h2,h3,h4⟩:=ae;obtain⟨es,clock,hb,F,cE,hD⟩:=id h1;obtain⟨v0,st,es1,clock1,eH,_,cP⟩:=WideElems.entry_then_store kd ht hz hb F (ks.read s hs);refine⟨v0,goInt st,_,eH,⟨rfl,rfl,rfl,D3,fun i _ hi=>heap_setBlock_other hb _ (fun e=>hi (by rw [e]))⟩,D3,fun w2 sh v hv f' db gO=>?_⟩;rw [heap_setBlock_same hb] at sh;obtain⟨es',clock',fF,fa⟩:=cP w2 (vv v) sh;obtain⟨w',hu,h5,h6⟩:=h1.update ks.keyed ht U2 (ks.read s hs) (vs.read v hv);rw [fa] at hu;injection hu with _ hu;subst hu;refine⟨_,fF,(Qd.laid ks hs hv h2 h3 h4 db gO h5).keep1 ?_,⟨rfl,rfl,rfl,D3,fun i _ hi=>heap_setBlock_other sh _ (fun e=>hi (by rw [e]))⟩,D3⟩;rw [heap_setBlock_same sh,heap_setBlock_same hb]
end
theorem Jvi {P:Program} {e:TypeId} {q:IntKind} (he:P.underlying e=some (.int q)):Jld (plainElem P e) (fun i:Int=>(Lit.int q i).wf=true) (fun i=> .int q i) (fun i=> .int q i):=
 ⟨fun v hv=>plainElem_int he hv,fun x v ps hv h=>by
  obtain⟨a,rfl,h2,_⟩:=plainElem_int_inv he h;simp only [Prod.mk.injEq,DataW.lit.injEq,Lit.int.injEq,true_and] at h2;rw [h2.1]⟩
noncomputable def clkR (x:Value):Option (DataW Unit×List MemPlace):=by
 classical
 exact if h:∃c:Int×ByteArray,okC c/\x=kvC c then some (.lit (klC h.choose),[]) else none
theorem Jgn:Jld clkR okC kvC klC:=
 ⟨fun v hv=>by
  have h:∃c:Int×ByteArray,okC c/\kvC v=kvC c:=⟨v,hv,rfl⟩;unfold clkR;rw [dif_pos h];have h2:=h.choose_spec;generalize h.choose=c at h2 ⊢;obtain⟨_,h2⟩:=h2;unfold kvC at h2;injection h2 with h2;injection h2 with h2;injection h2 with h3 h4;injection h3 with _ h3;injection h4 with h4;injection h4 with h4;have:v=c:=Prod.ext h3 h4;rw [this],fun x v ps hv hx=>by
  unfold clkR at hx
  split at hx
  ·rename_i h;have h2:=h.choose_spec;simp at hx;rw [h2.2,Jrm h2.1 hv hx.1]
  ·cases hx⟩
end Go.Proofs.YtknfcamdfdfoeaaGreatDoor
