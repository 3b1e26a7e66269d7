/- Lemmas. -/
import Derived.Test.YtknfcamdfdfoeaaGreatDoorMac
import Derived.Test.YtknfcamdfdfoeaaGreatDoorZ00
import Derived.Laws.Entries
import Derived.Test.YtknfcamdfdfoeaaGreatDoorZ05
import Derived.Test.YtknfcamdfdfoeaaGreatDoorRows
import Derived.Test.YtknfcamdfdfoeaaGreatDoorZ02
import Derived.Maps.OwnSet
import Derived.Test.YtknfcamdfdfoeaaGreatDoorZ04
import Derived.Test.YtknfcamdfdfoeaaGreatDoorZ01
set_option linter.unusedVariables false
set_option linter.unusedSimpArgs false
set_option maxRecDepth 100000
set_option maxHeartbeats 64000000
namespace Go.Proofs.YtknfcamdfdfoeaaGreatDoor
open Go.RowKit
def W32 (n:Int):Int:=IntKind.i32.wrap n
theorem Jpu (n:Int):W32 n=if 2147483648<=n % 4294967296 then n % 4294967296-4294967296 else n % 4294967296:=by
 unfold W32 IntKind.wrap;simp [IntKind.bits,IntKind.signed]
theorem Jvc (n:Int):I32 (W32 n):=by
 rw [Jpu];unfold I32;split <;> omega
theorem Jbn {n:Int} (h:I32 n):W32 n=n:=by
 unfold I32 at h;rw [Jpu];split <;> omega
theorem Jxx (n:Int):W32 n=(let m:=n.tmod 4294967296;let m:=if m<0 then m+4294967296 else m;if m>=2147483648 then m-4294967296 else m):=by
 rw [Jpu]
 rcases Int.lt_or_le n 0 with h|h
 ·obtain⟨m,rfl⟩:∃m,n = -m:=⟨-n,Ua⟩;rw [Int.neg_tmod,Int.tmod_eq_emod_of_nonneg Ua];dsimp only
  repeat' split
  all_goals omega
 ·rw [Int.tmod_eq_emod_of_nonneg h];dsimp only
  repeat' split
  all_goals omega
def Jkg (b:Bool):Int:=if b=true then 1 else 0
def unF (op a:Int):Int:=if op=1 then W32 (-a) else if op=2 then Jkg (a == 0) else 0
def Jzm (a b:Int):Int:=if b=0 then 0 else W32 (a.tdiv b)
def Kak (op a b:Int):Int:=
 if op=1 then W32 (a+b)
 else if op=2 then W32 (a-b)
 else if op=3 then W32 (a * b)
 else if op=4 then Jzm a b
 else if op=5 then W32 (a-W32 (Jzm a b * b))
 else if op=6 then W32 (a * 2 ^ (b % 32).toNat)
 else if op=7 then a / 2 ^ (b % 32).toNat
 else if op=8 then bits .and .i32 a b
 else if op=9 then bits .or .i32 a b
 else if op=10 then bits .xor .i32 a b
 else if op=11 then Jkg (a == b)
 else if op=12 then Jkg (a != b)
 else if op=13 then Jkg (decide (a<b))
 else if op=14 then Jkg (decide (a<=b))
 else if op=15 then Jkg (decide (b<a))
 else if op=16 then Jkg (decide (b<=a))
 else 0
end Go.Proofs.YtknfcamdfdfoeaaGreatDoor
namespace Go.Proofs.YtknfcamdfdfoeaaGreatDoor
open Go.RowKit Go.Sort
theorem Kv {a b c:World} {r:Option Nat} (h:a.grownBy b r) (k:b.grownBy c r):a.grownBy c r:=
 ⟨k.os.trans h.os,k.tape.trans h.tape,k.output.trans h.output,Nat.le_trans h.size k.size,fun i hi aS=>(k.block i (Nr hi h.size) aS).trans (h.block i hi aS)⟩
theorem K0 {a b:World} {r:Option Nat} (h:Below a.heap.size a b):a.grownBy b r:=⟨h.os,h.tape,h.output,h.size,fun i hi _=>h.block i hi⟩
theorem Qz:(Tryz.prog.info? 59).map (fun i=>(i.zero,i.size,i.bytes))=some (some (.agg #[.int .i64 0,.int .i32 0]),2,16):=Ug
def cdC (l:List (Int×Int)):List Value:=l.flatMap fun x=>[.int .i64 x.1,.int .i32 x.2]
theorem Jma:∀l:List (Int×Int),(cdC l).length=l.length * 2
 | []=>rfl
 | x :: l=>by
  have:=Jma l;unfold cdC at this ⊢;exact Uc7
theorem Jbr (a b:List (Int×Int)):cdC (a ++ b)=cdC a ++ cdC b:=by unfold cdC;simp
theorem Q2 (l:List (Int×Int)):∀u∈cdC l,u.oneCell'=true:=by
 intro u hu;unfold cdC at hu;rw [List.mem_flatMap] at hu;obtain⟨x,_,hx⟩:=hu;simp only [List.mem_cons,List.not_mem_nil,or_false] at hx
 rcases hx with rfl|rfl <;> rfl
theorem Joi:∀(l:List (Int×Int)) (k:Nat) (x:Int×Int),l[k]?=some x->(cdC l)[k * 2]?=some (.int .i64 x.1)/\(cdC l)[k * 2+1]?=some (.int .i32 x.2)
 | [],k,x,h=>Lt
 | y :: l,0,x,h=>by simp at h;subst h;exact⟨rfl,rfl⟩
 | y :: l,k+1,x,h=>by
  have:=Joi l k x Ve;have e:cdC (y :: l) = [.int .i64 y.1,.int .i32 y.2] ++ cdC l:=rfl;exact Ua2
def J3 (w:World) (l:List (Int×Int)) (A:Option Addr) (cap:Nat):Prop:=l.length<=cap/\cap<=maxLen/\X6 w A l.length 2 (cdC l)
theorem Jds {w w':World} {A:Option Addr} {m size:Nat} {news:List Value} (h:X6 w A m size news) (hb:Below w.heap.size w w'):X6 w' A m size news:=
 ⟨h.1,fun hm=>by
  obtain⟨b,off,hA,hc⟩:=h.2 hm;exact⟨b,off,hA,fun j u hj=>Ja hb (hc j u hj)⟩⟩
theorem J3.later {w w':World} {l:List (Int×Int)} {A:Option Addr} {cap:Nat} (h:J3 w l A cap) (hb:Below w.heap.size w w'):J3 w' l A cap:=⟨h.1,h.2.1,Jds h.2.2 hb⟩
theorem J3.of_own {w:World} {base:Nat} {e:TypeId} {l:List (Int×Int)} {v:Value} (h:w.ownsRow base e 2 v l.length (cdC l)):∃A cap,v = .slice A l.length cap/\J3 w l A cap:=by
 obtain⟨A,cap,rfl,h1,h2⟩:=Jv h;refine⟨A,cap,rfl,h1,h2,Jma l,fun hm=>?_⟩;exact Uct
structure Jbv where
 l:List (Int×Int)
 A:Option Addr
 cap:Nat
def Jbv.val (x:Jbv):Value:= .slice x.A x.l.length x.cap
def Je1 (w:World) (ps:List Jbv) (A:Option Addr):Prop:=(0<ps.length->∃b off,A=some ⟨b,off,none⟩/\∀(k:Nat) (x:Jbv),ps[k]?=some x->w.cell? ⟨b,off+k,none⟩=some x.val)/\∀x∈ps,J3 w x.l x.A x.cap
theorem Je1.later {w w':World} {ps:List Jbv} {A:Option Addr} (h:Je1 w ps A) (hb:Below w.heap.size w w'):Je1 w' ps A:=
 ⟨fun hl=>by
  obtain⟨b,off,hA,hc⟩:=h.1 hl;exact⟨b,off,hA,fun k x hk=>Ja hb (hc k x hk)⟩,fun x hx=>(h.2 x hx).later hb⟩
def Qu (ps:List Jbv):List (Int×Int):=ps.flatMap Jbv.l
theorem Js3 {ps:List Jbv} {k:Nat} {x:Jbv} (h:ps[k]?=some x):Qu (ps.take (k+1))=Qu (ps.take k) ++ x.l:=by
 unfold Qu;rw [List.take_add_one,h];exact Ul
theorem Jnv {ps:List Jbv} {k:Nat} : (Qu (ps.take k)).length<=(Qu ps).length:=by
 have:Qu ps=Qu (ps.take k) ++ Qu (ps.drop k):=by unfold Qu;rw [<-List.flatMap_append,List.take_append_drop]
 rw [this,Nk];omega
end Go.Proofs.YtknfcamdfdfoeaaGreatDoor
namespace Go.Proofs.YtknfcamdfdfoeaaGreatDoor
open Go.RowKit Go.Sort Go.Maps Go.ChangeMaps Go.WideMaps
def Jaj (P:Program) (k e:TypeId) (w:World) (b n:Nat) (f:ByteArray->Option Int) (c:Nat):Prop:=
 ∃D:DataW Unit,w.ownsMap P k (plainElem P e) b n D/\Maps.Tidy D/\Maps.size D=c/\
  ∀s:ByteArray,Maps.has D (.string s.data.toList)=(f s).isSome/\D.atKey (.string s.data.toList) (.lit (.int .i64 0)) = .lit (.int .i64 ((f s).getD 0))
def Jck (f:ByteArray->Option Int) (s:ByteArray):ByteArray->Option Int:=fun t=>if t.data=s.data then none else f t
section
variable {P:Program} {k e:TypeId} {w w':World} {b n c:Nat} {f:ByteArray->Option Int}
theorem Jaj.made (w:World):Jaj P k e (w.alloc (.map #[] 0)) w.heap.size 0 (fun _=>none) 0:=
 ⟨.map [],World.ownsMap_made w P k _,Maps.tidy_empty,rfl,fun s=>⟨rfl,rfl⟩⟩
theorem Jaj.keep1 (h:Jaj P k e w b n f c) (hb:w'.heap[b]?=w.heap[b]?):Jaj P k e w' b n f c:=by
 exact Uc4
theorem Jaj.lt (h:Jaj P k e w b n f c):b<w.heap.size:=by
 obtain⟨D,h1,_⟩:=h;exact h1.lt
theorem Jaj.bel (h:Jaj P k e w b n f c) (hb:Below w.heap.size w w'):Jaj P k e w' b n f c:=h.keep1 (hb.block b h.lt)
theorem Jaj.plain (h:Jaj P k e w b n f c):Jz P k e w b n f:=by
 obtain⟨D,h1,h2,_,h3⟩:=h;exact⟨D,h1,h2.isMap,h3⟩
theorem Jte {ops:Array Oper} {rest:List Oper} {o:Oper} {a:Act} {Q:Exit->Act->World->Prop} (hg:o.guard=none) (m x v:Operand) (t:TypeId) (jf:o.op=Op.mapUpdate t m x v)
  (hk:P.underlying k=some .string) (ht:P.underlying t=some (.map k e)) (he:P.underlying e=some (.int .i64))
  (b n:Nat) (f:ByteArray->Option Int) (c:Nat) (s:ByteArray) (i:Int) (hm:a.eval m = .map (some b)) (ae:Jaj P k e w b n f c) (hn:n<1000000000) (hx:a.eval x = .string s) (hv:a.eval v = .int .i64 i)
  (hs:s.size<=maxLen) (hi : -9223372036854775808<=i/\i<=9223372036854775807)
  (hK:∀w',Jaj P k e w' b (n+1) (upd f s i) (if (f s).isSome then c else c+1)->w.grownBy w' (some b)->wpList P ops Q rest (a.put o.dst undef) w'):wpList P ops Q (o :: rest) a w:=by
 obtain⟨D,h1,h2,hc,h3⟩:=ae;refine wpList_mapUpdate_own w hg m x v t jf k e (string_keyed hk) ht _ b n D hm h1 U2 _ _ _ hx hv (keyOf_string_mk hk hs) _ [] (plainElem_int he (WalkArith.wf_i64 hi)) fun w' h4 h5=>hK w' ⟨_,h4,h2.put (show WideAt.IsKeyLit (.string s.data.toList) by trivial) _,?_,fun t=>?_⟩ h5
 ·rw [Maps.size_put h2,(h3 s).1,hc]
 ·by_cases aU:t.data=s.data
  ·have dz:WideAt.IsKeyLit (.string s.data.toList):=Th;rw [aU,has_put_same h2.isMap dz,atKey_put_same h2.isMap dz];simp [upd,aU]
  ·exact Ubk
theorem Jjl {ops:Array Oper} {rest:List Oper} {o:Oper} {a:Act} {Q:Exit->Act->World->Prop} (hg:o.guard=none) (m x:Operand) (t:TypeId) (jf:o.op=Op.call {callee:=Callee.builtin Builtin.delete,args:=#[m,x],argTypes:=#[t,k]})
  (hk:P.underlying k=some .string) (ht:P.underlying t=some (.map k e))
  (b n:Nat) (f:ByteArray->Option Int) (c:Nat) (s:ByteArray) (hm:a.eval m = .map (some b)) (ae:Jaj P k e w b n f c) (hx:a.eval x = .string s) (hs:s.size<=maxLen)
  (hK:∀w' c',Jaj P k e w' b n (Jck f s) c'->c'+(if (f s).isSome then 1 else 0)=c->w.grownBy w' (some b)->wpList P ops Q rest (a.put o.dst (.tuple #[])) w'):wpList P ops Q (o :: rest) a w:=by
 obtain⟨D,h1,h2,hc,h3⟩:=ae;refine wpList_delete_own w hg m x t k jf e (string_keyed hk) ht _ b n D hm h1 _ _ hx (keyOf_string_mk hk hs) fun w' h4 h5=>hK w' _ ⟨_,h4,h2.del _,rfl,fun t=>?_⟩ ?_ h5.grown
 ·by_cases aU:t.data=s.data
  ·rw [aU,Maps.has_del_same,Maps.atKey_del_same];simp [Jck,aU]
  ·have aS:(Lit.string t.data.toList)≠ .string s.data.toList:=by
    intro h;injection h with h;exact aU L9
   rw [Maps.has_del_other aS,Maps.atKey_del_other aS,(h3 t).1,(h3 t).2];simp [Jck,aU]
 ·have:=Maps.size_del (k:= .string s.data.toList) h2;rw [(h3 s).1] at this;rw [<-hc];exact this
theorem Jjm {ops:Array Oper} {rest:List Oper} {o:Oper} {a:Act} {Q:Exit->Act->World->Prop} (hg:o.guard=none) (m:Operand) (t:TypeId) (jf:o.op=Op.call {callee:=Callee.builtin Builtin.len,args:=#[m],argTypes:=#[t]})
  (ht:P.underlying t=some (.map k e)) (b n:Nat) (f:ByteArray->Option Int) (c:Nat) (hm:a.eval m = .map (some b)) (ae:Jaj P k e w b n f c)
  (hK:wpList P ops Q rest (a.put o.dst (.int .i64 c)) w):wpList P ops Q (o :: rest) a w:=by
 obtain⟨D,h1,h2,hc,h3⟩:=ae;refine wpList_len_own w hg m t jf k e ht _ b n D hm h1 ?_;rw [hc];exact hK
end
def Jn7 (v:Value):Option (DataW Value×List MemPlace):=some (.held v,[])
def Jaz (P:Program) (k:TypeId) (w:World) (b n:Nat) (f:ByteArray->Option Value):Prop:=
 ∃D:DataW Value,w.ownsMap P k Jn7 b n D/\Maps.IsMap D/\
  ∀(s:ByteArray) (z:Value),D.atKey (.string s.data.toList) (.held z) = .held ((f s).getD z)
def Jki (f:ByteArray->Option Value) (s:ByteArray) (v:Value):ByteArray->Option Value:=fun t=>if t.data=s.data then some v else f t
section
variable {P:Program} {k e:TypeId} {w w':World} {b n:Nat} {f:ByteArray->Option Value}
theorem Jaz.made (w:World):Jaz P k (w.alloc (.map #[] 0)) w.heap.size 0 (fun _=>none):=
 ⟨.map [],World.ownsMap_made w P k _,isMap_empty,fun s z=>rfl⟩
theorem Jaz.keep1 (h:Jaz P k w b n f) (hb:w'.heap[b]?=w.heap[b]?):Jaz P k w' b n f:=by
 exact Uc4
theorem Jaz.lt (h:Jaz P k w b n f):b<w.heap.size:=by
 obtain⟨D,h1,_⟩:=h;exact h1.lt
theorem Jaz.bel (h:Jaz P k w b n f) (hb:Below w.heap.size w w'):Jaz P k w' b n f:=h.keep1 (hb.block b h.lt)
theorem Jel {ops:Array Oper} {rest:List Oper} {o:Oper} {a:Act} {Q:Exit->Act->World->Prop} (hg:o.guard=none) (m x:Operand) (t:TypeId) (jf:o.op=Op.lookup t m x false)
  (hk:P.underlying k=some .string) (ht:P.underlying t=some (.map k e)) (z:Value) (hz:(zeroValue e).run P w = .ok z w)
  (b n:Nat) (f:ByteArray->Option Value) (s:ByteArray) (hm:a.eval m = .map (some b)) (ae:Jaz P k w b n f) (hx:a.eval x = .string s) (hs:s.size<=maxLen)
  (hK:wpList P ops Q rest (a.put o.dst ((f s).getD z)) w):wpList P ops Q (o :: rest) a w:=by
 obtain⟨D,h1,h2,h3⟩:=ae;refine wpList_plain hg fun K' hK'=>?_;obtain⟨v,ps,eH,hv⟩:=h1.lookup (string_keyed hk) ht hz (R:=Jn7) rfl (keyOf_string_mk hk hs)
 have he:v=(f s).getD z:=by
  rw [h3 s z] at hv;unfold Jn7 at hv;simp only [Option.some.injEq,Prod.mk.injEq] at hv;have:=hv.1;injection this
 subst he;unfold Oper.wp;simp [execOp,jf,hm,hx,eH,Result.andThen];exact hK' _ _ hK
theorem Jlj {ops:Array Oper} {rest:List Oper} {o:Oper} {a:Act} {Q:Exit->Act->World->Prop} (hg:o.guard=none) (m x v:Operand) (t:TypeId) (jf:o.op=Op.mapUpdate t m x v)
  (hk:P.underlying k=some .string) (ht:P.underlying t=some (.map k e))
  (b n:Nat) (f:ByteArray->Option Value) (s:ByteArray) (i:Value) (hm:a.eval m = .map (some b)) (ae:Jaz P k w b n f) (hn:n<1000000000) (hx:a.eval x = .string s) (hv:a.eval v=i)
  (hs:s.size<=maxLen)
  (hK:∀w',Jaz P k w' b (n+1) (Jki f s i)->w.grownBy w' (some b)->wpList P ops Q rest (a.put o.dst undef) w'):wpList P ops Q (o :: rest) a w:=by
 obtain⟨D,h1,h2,h3⟩:=ae;refine wpList_mapUpdate_own w hg m x v t jf k e (string_keyed hk) ht Jn7 b n D hm h1 U2 _ _ _ hx hv (keyOf_string_mk hk hs) (.held i) [] rfl fun w' h4 h5=>hK w' ⟨_,h4,h2.put _ _,fun t z=>?_⟩ h5
 by_cases aU:t.data=s.data
 ·have dz:WideAt.IsKeyLit (.string s.data.toList):=Th;rw [aU,atKey_put_same h2 dz];simp [Jki,aU]
 ·have aS:(Lit.string t.data.toList)≠ .string s.data.toList:=by
   intro h;injection h with h;exact aU L9
  rw [atKey_put_other aS,h3 t z];simp [Jki,aU]
end
end Go.Proofs.YtknfcamdfdfoeaaGreatDoor
namespace Go.Proofs.YtknfcamdfdfoeaaGreatDoor
open Go.RowKit
def Ka (l:List ByteArray) (s:ByteArray):Bool:=l.any fun x=>x.toList == s.toList
theorem Ju7 (x:ByteArray) (l:List ByteArray) (s:ByteArray):Ka (x :: l) s=(x.toList == s.toList || Ka l s):=rfl
theorem Jcx (l:List ByteArray) (x s:ByteArray):Ka (l ++ [x]) s=(Ka l s || x.toList == s.toList):=by
 unfold Ka;rw [List.any_append];simp
def Yw (l:List ByteArray) (s:ByteArray):List ByteArray:=if s.toList.isEmpty=true then l else if Ka l s=true then l else l ++ [s]
theorem Jj5 (l:List ByteArray) (s:ByteArray):l.length<=(Yw l s).length/\(Yw l s).length<=l.length+1:=by
 unfold Yw
 split
 ·exact Ua
 ·split
  ·exact Ua
  ·exact Ul
namespace Ex
mutual
def named:List ByteArray->Ex->List ByteArray
 | l,mk _ _ s sub=>namedL (Yw l s) sub
def namedL:List ByteArray->List Ex->List ByteArray
 | l,[]=>l
 | l,x :: r=>namedL (named l x) r
end
theorem named_eq (l:List ByteArray) (e:Ex):e.named l=namedL (Yw l e.name) e.sub:=by cases e;rw [named];rfl
theorem Jlq:∀(r:List Ex),(∀x∈r,∀l,l.length<=(named l x).length/\(named l x).length<=l.length+x.size)->∀l,l.length<=(namedL l r).length/\(namedL l r).length<=l.length+sizeL r
 | [],_,l=>by simp [namedL]
 | x :: r,h,l=>by
  have h1:=h x Ul l;have h2:=Jlq r (fun y hy=>h y F0) (named l x);simp only [namedL,sizeL];exact Ua
theorem named_len (e:Ex):∀l,l.length<=(named l e).length/\(named l e).length<=l.length+e.size:=by
 induction e using ind with
 | h e ih=>
  intro l;have h1:=Jj5 l e.name;have h2:=Jlq e.sub ih (Yw l e.name);rw [named_eq,size_eq];omega
end Ex
def Kx (e:Ex):List ByteArray:=if 120<e.count 121 then [] else e.named []
end Go.Proofs.YtknfcamdfdfoeaaGreatDoor
namespace Go.Proofs.YtknfcamdfdfoeaaGreatDoor
open Go.RowKit Go.Sort
theorem Yu (l:List ByteArray) (A:Option Addr) (cap:Nat) (s:ByteArray) (w:World) (hl:Qf w l A cap) :
  Calls Tryz.prog 54 #[.slice A l.length cap,.string s] w fun r w'=>r = .returned (.bool (Ka l s))/\Below w.heap.size w w':=by
 have ai:=hl.len;unfold maxLen at ai;obtain⟨jD,jE⟩:=ai
 go_enter Tryz.func54,Tryz.ntmps54
 go_wp2_with fail
 go_loopw [5] (fun i wr=>∃k:Nat,k<=l.length/\i = .int .i64 k/\Ka (l.drop k) s=Ka l s/\Below w.heap.size w wr) (fun i _=>l.length-(intOf i).toNat)
 case atStart=>exact⟨0,Np,rfl,rfl,Jb⟩
 case round=>
  obtain⟨k,hk,rfl,aa,ab⟩:=hrel
  by_cases am:k<l.length
  ·have hx:l[k]?=some l[k]:=Ng am;have hd:l.drop k=l[k] :: l.drop (k+1):=No am;generalize l[k]=x at hx hd;obtain⟨b,off,rfl,aH,d0⟩:=(hl.later ab).get hx;rw [hd,Ju7] at aa;exact Uax
  ·exact Ub1
theorem Qf.of_own {w:World} {base:Nat} {e:TypeId} {l:List ByteArray} {A:Option Addr} {cap:Nat} (h:w.ownsRow base e 1 (.slice A l.length cap) l.length (l.map .string)):Qf w l A cap:=by
 exact Uaw
theorem Yz {a b c:World} {r0 r1:Option Nat} (h1:a.grownBy b r0) (h2:b.grownBy c r1) (hr:r1=r0\/∀k,r1=some k->a.heap.size<=k):a.grownBy c r0:=
 ⟨h2.os.trans h1.os,h2.tape.trans h1.tape,h2.output.trans h1.output,Nat.le_trans h1.size h2.size,fun k hk aS=>(h2.block k (Nr hk h1.size) (by
  rcases hr with rfl|hr
  ·exact aS
  ·intro he;have:=hr k he.symm;omega)).trans (h1.block k hk aS)⟩
theorem Jat {a b:World} {r0:Option Nat} (h:Below a.heap.size a b):a.grownBy b r0:=⟨h.os,h.tape,h.output,h.size,fun k hk _=>h.block k hk⟩
def Jza (w0:World) (x:Ex):Prop:=∀(A:Option Addr) (c:Nat),Jt w0 x A c->∀(W:World) (v:Value) (l:List ByteArray),Below w0.heap.size w0 W->W.ownsRow w0.heap.size 9 1 v l.length (l.map .string)->l.length+x.size<=1000000->
  Calls Tryz.prog 121 #[v,exV x A c] W fun r w'=>(∃v',r = .returned v'/\w'.ownsRow w0.heap.size 9 1 v' (x.named l).length ((x.named l).map .string)/\(v'.ownBlock=v.ownBlock\/∀b,v'.ownBlock=some b->W.heap.size<=b))/\W.grownBy w' v.ownBlock
theorem Jtx (w0:World) (e:Ex):Jza w0 e:=by
 induction e using Ex.ind with
 | h e ih=>
 intro Ae ce he W v l dZ ae cE;obtain⟨Av,cv,rfl,zD,nL⟩:=Jv ae;have ai:=he.len;unfold maxLen at ai nL;obtain⟨bI,aD⟩:=ai;have hU:∀b,(Value.slice Av l.length cv).ownBlock=some b->w0.heap.size<=b/\b<W.heap.size:=fun b hb=>ae.lt b hb;have tL:=dZ.size;have hszz:=Ex.size_eq e;have cQ:=Jj5 l e.name;have bH:=Nf (Ex.named_eq l e);have rQ:=fun W' h=>Yu l Av cv e.name W' ((Qf.of_own ae).later h);unfold exV
 have qi:∀(V1:Value) (a b:World),(V1.ownBlock=(Value.slice Av l.length cv).ownBlock\/∀k,V1.ownBlock=some k->W.heap.size<k)->a.grownBy b V1.ownBlock->W.heap.size<a.heap.size->∀u,a.cell? ⟨W.heap.size,3,none⟩=some u->b.cell? ⟨W.heap.size,3,none⟩=some u:=by
  intro V1 a b h hg hz u hu;refine Jr (hg.block W.heap.size hz fun he=>?_) hu
  rcases h with h|h
  ·rw [h] at he;have:=(hU _ he.symm).2;exact Ua
  ·have:=h _ he.symm;exact Ua
 have HK:=Nf qi;clear qi;have kS:=Nf hU;clear hU
 cases aL:e.name.toList.isEmpty
 case true=>
  have fw:Yw l e.name=l:=by unfold Yw;rw [if_pos aL]
  rw [fw] at bH cQ;clear fw
  go_enter Tryz.func121,Tryz.ntmps121
  go_wp2_with fail
  refine Jo fun W0 ag=>?_;have eo:W0.ownsRow w0.heap.size 9 1 (.slice Av l.length cv) l.length (l.map .string):=by rw [ag];exact ae.alloc _
  have iW:(Value.slice Av l.length cv).ownBlock=(Value.slice Av l.length cv).ownBlock\/∀b,(Value.slice Av l.length cv).ownBlock=some b->W.heap.size<b:= .inl rfl;have qj:W.grownBy W0 (Value.slice Av l.length cv).ownBlock:=by rw [ag];exact World.grownBy_alloc W _ _
  have ss:=Nb W0 W.heap.size 3 (.slice Ae e.sub.length ce) Uc;have bD:W.heap.size<W0.heap.size:=La;clear ag;exact Tu
 case false=>
  cases hh:Ka l e.name
  case true=>
   have fw:Yw l e.name=l:=by unfold Yw;rw [aL,if_neg Ul,if_pos hh]
   rw [fw] at bH cQ;rw [hh] at rQ;clear fw hh
   go_enter Tryz.func121,Tryz.ntmps121
   go_wp2_with (first|(go_at_call 54;refine(rQ _ Jb).mono ?_;rintro r w1 ⟨rfl,ac⟩;have ak:=Jg ac;have af:=ac.size;(try simp at af);have lu:=lt0 W w1))
   refine Jo fun W0 ag=>?_;have eo:W0.ownsRow w0.heap.size 9 1 (.slice Av l.length cv) l.length (l.map .string):=by rw [ag];exact Jy (ae.alloc _) ac
   have iW:(Value.slice Av l.length cv).ownBlock=(Value.slice Av l.length cv).ownBlock\/∀b,(Value.slice Av l.length cv).ownBlock=some b->W.heap.size<b:= .inl rfl;have qj:W.grownBy W0 (Value.slice Av l.length cv).ownBlock:=by rw [ag];exact Jat (Jd (Jc (Nt) _) ac)
   have ss:=Nb W0 W.heap.size 3 (.slice Ae e.sub.length ce) Uc;have bD:W.heap.size<W0.heap.size:=Lk;clear ag ac ak;exact Tu
  case false=>
   have fw:Yw l e.name=l ++ [e.name]:=by unfold Yw;rw [aL,if_neg Ul,if_neg (by simp [hh])]
   rw [fw] at bH cQ;rw [hh] at rQ;clear fw hh
   go_enter Tryz.func121,Tryz.ntmps121
   go_wp2_with (first|(go_at_call 54;refine(rQ _ Jb).mono ?_;rintro r w1 ⟨rfl,ac⟩;have ak:=Jg ac;have af:=ac.size;(try simp at af);have lu:=lt0 W w1)|(at_builtin;go_loud (refine Z2 rfl (.tmp 16) (.tmp 19) 121 rfl w0.heap.size 9 _ 1 16 Tryz.underlying121 Zq rfl Ua (.slice Av l.length cv) l.length (l.map .string) w1.heap.size 1 1 [.string e.name] rfl (Js (Jy (ae.alloc _) ac)) rfl rfl (fun j u hj=>Udt) Uv Ua Ua Uj ?_;intro v2 w2 ao aG aI;obtain⟨A2,cv2,rfl,it,iu⟩:=Jv ao)))
   refine Jo fun W0 ag=>?_;have br:=aG.size;simp at br;have eo:W0.ownsRow w0.heap.size 9 1 (.slice A2 (l.length+1) cv2) (l ++ [e.name]).length ((l ++ [e.name]).map .string):=by rw [ag,List.map_append,Nk];exact ao
   have iW:(Value.slice A2 (l.length+1) cv2).ownBlock=(Value.slice Av l.length cv).ownBlock\/∀b,(Value.slice A2 (l.length+1) cv2).ownBlock=some b->W.heap.size<b:=by
    exact Ucy
   have qj:W.grownBy W0 (Value.slice Av l.length cv).ownBlock:=by rw [ag];exact Yz (Jat (Jc (Jd (Jc (Nt) _) ac) _)) aG (.inl rfl)
   have ss:W0.cell? ⟨W.heap.size,3,none⟩=some (.slice Ae e.sub.length ce):=by
    rw [ag];refine HK.out (.slice Av l.length cv) _ _ (.inl rfl) aG Uj _ ?_;exact Uq
   have bD:W.heap.size<W0.heap.size:=Lk;clear ag ac ak aG aI ao
   go_loopw [0,5] (fun u0 i wr=>∃(k:Nat) (V1:Value) (l2:List ByteArray),k<=e.sub.length/\i = .int .i64 k/\u0=V1/\Ex.namedL l2 (e.sub.drop k)=e.named l/\wr.ownsRow w0.heap.size 9 1 V1 l2.length (l2.map .string)/\(V1.ownBlock=(Value.slice Av l.length cv).ownBlock\/∀b,V1.ownBlock=some b->W.heap.size<b)/\W.grownBy wr (Value.slice Av l.length cv).ownBlock/\wr.cell? ⟨W.heap.size,3,none⟩=some (.slice Ae e.sub.length ce)/\W.heap.size<wr.heap.size/\l2.length+Ex.sizeL (e.sub.drop k)<=1000000) (fun _ i _=>e.sub.length-(intOf i).toNat)
   case atStart=>exact⟨0,_,(l ++ [e.name]),Np,rfl,rfl,D2,eo,iW,qj,ss,bD,Vm⟩
   case round=>
    obtain⟨k,V1,l2,hk,rfl,rfl,aa,ed,ch,cK,aN,vu,kn⟩:=hrel;obtain⟨Ak,cvk,rfl,cD,dz⟩:=Jv ed
    by_cases am:k<e.sub.length
    ·have hx:e.sub[k]?=some e.sub[k]:=Ng am;have aj:e.sub[k]∈e.sub:=Nj am;have hd:e.sub.drop k=e.sub[k] :: e.sub.drop (k+1):=No am;generalize e.sub[k]=x at hx aj hd;have aC:=Nd w0 wr (J2 dZ cK (fun b hb=>(kS.out b hb).1) Ua);obtain⟨b,off,A',cap',rfl,c0,c1,c2,c3,hs⟩:=he.get hx;have c0':=Ja aC c0;have c1':=Ja aC c1;have c2':=Ja aC c2;have c3':=Ja aC c3;rw [hd,Ex.namedL] at aa;rw [hd,Ex.sizeL] at kn;have jV:=Ex.named_len x l2;have az:=ih x aj A' cap' hs wr _ l2 aC ed Ua;unfold exV at az;have HR:=Nf aa;have fO:=Nf ch;have qk:=Nf cK;clear aa hd hx c0 c1 c2 c3 ch cK
     go_wp2_with (first|(go_at_call 121;refine az.mono ?_;rintro r w3 ⟨⟨v3,rfl,aE,fv⟩,bJ⟩))
     go_roundw
     case rel=>
      have kI:=bJ.size;refine⟨k+1,_,x.named l2,Ua,Up,rfl,HR.out,aE,?_,?_,HK.out _ _ _ fO.out bJ vu _ aN,Ua,Ua⟩
      ·rcases fv with h3|h3
       ·rw [h3];exact fO.out
       ·exact .inr fun b hb=>by have:=h3 b hb;omega
      ·refine Yz qk.out bJ ?_
       rcases fO.out with h|h
       ·exact .inl h
       ·exact .inr fun b hb=>Df
     case measure=>simp [intOf];omega
    ·obtain rfl:k=e.sub.length:=Ua;rw [Nn,Ex.namedL] at aa;subst aa;have qk:=Nf cK;have fO:=Nf ch;clear cK ch
     go_wp2_with fail
     go_ret;exact⟨⟨_,rfl,ed,fO.out.imp id fun h b hb=>Df⟩,qk.out⟩
theorem Jn9 {a b:World} {B:Nat} (h:a.grownBy b none) (hB:B<=a.heap.size):Below B a b:=
 ⟨h.os,h.tape,h.output,h.size,fun k hk=>h.block k Ua Ul⟩
theorem Joq (e:Ex) (A:Option Addr) (cap:Nat) (w:World) (he:Jt w e A cap) (hz:e.size<=1000000) :
  Calls Tryz.prog 87 #[exV e A cap] w fun r w'=>(∃v,r = .returned v/\w'.ownsRow w.heap.size 9 1 v (Kx e).length ((Kx e).map .string))/\Below w.heap.size w w':=by
 have av:=fun W h=>Jf2 e A cap 121 W (he.later h) Ua Ua;have ct:=Ex.count_bd e 121;have nZ:=fun(W:World) (h:Below w.heap.size w W)=>Jtx W e A cap (he.later h) W (.slice none 0 0) [] (Nt) (Nw) Mg;have hv:Kx e=if 120<e.count 121 then [] else e.named []:=rfl;unfold exV at *;generalize e.count 121=c at *
 by_cases hc:120<c
 ·rw [if_pos hc] at hv;have HV:=Nf hv;clear hv
  go_enter Tryz.func87,Tryz.ntmps87
  go_wp2_with (first|(go_at_call 16;refine mo (av _ Jb) fun w1 ac ak af bV=>?_;(try simp at af)))
  go_ret;exact⟨⟨_,rfl,by rw [HV.out];exact Nw⟩,Jb⟩
 ·rw [if_neg hc] at hv;have HV:=Nf hv;clear hv
  go_enter Tryz.func87,Tryz.ntmps87
  go_wp2_with (first|(go_at_call 16;refine mo (av _ Jb) fun w1 ac ak af bV=>?_;(try simp at af))|(go_at_call 121;refine(nZ _ Jb).mono ?_;rintro r w2 ⟨⟨v2,rfl,ao,_⟩,aG⟩))
  go_ret;exact⟨⟨_,rfl,by rw [HV.out];exact K8 ao Ua⟩,Jn (a:=w) (by exact Jb) (Jn9 aG (Ns _)) Ua⟩
theorem Jru (e:Ex):∀(A:Option Addr) (cap:Nat) (most:Int) (w:World),Jt w e A cap->-1000000<=most->most<=1000000->
  Calls Tryz.prog 115 #[exV e A cap,.int .i64 most] w fun r w'=>r = .returned (.int .i64 (e.count most))/\Below w.heap.size w w':=by
 induction e using Ex.ind with
 | h e ih=>
 intro A cap most w he hm cI;have hl:=he.len;unfold maxLen at hl;obtain⟨bI,aD⟩:=hl;unfold exV
 go_enter Tryz.func115,Tryz.ntmps115
 go_wp2_with fail
 refine Jo fun W0 ag=>?_;have ax:=Nd w W0 Uo;have bD:w.heap.size<W0.heap.size:=La;have p3:=Nb W0 w.heap.size 3 (.slice A e.sub.length cap) Uc;clear ag;replace he:=he.later ax
 go_loopw [5,6] (fun m i wr=>∃(k:Nat) (m':Int),k<=e.sub.length/\i = .int .i64 k/\m = .int .i64 m'/\1<=m'/\m'<=max 1 most/\Ex.countL (e.sub.drop k) m' most=e.count most/\Below W0.heap.size W0 wr) (fun _ i _=>e.sub.length-(intOf i).toNat)
 case atStart=>exact⟨0,1,Np,rfl,rfl,Ua,Ua,by simp [Ex.count_eq],Nt⟩
 case round=>
  obtain⟨k,m',hk,rfl,rfl,h0,h1,aa,ab⟩:=hrel;have hc:=Jg ab;have bu:=ab.size
  by_cases am:k<e.sub.length
  ·obtain⟨x,hx,aj,hd⟩:=Kl am;obtain⟨b,off,A',cap',rfl,c0,c1,c2,c3,hs⟩:=(he.later ab).get hx;rw [hd,Ex.countL] at aa;have ct:=Ex.count_bd x (most-m');have ihx:=ih x aj
   by_cases qK:m'>=most
   ·exact Uca
   ·rw [if_neg qK] at aa;have HR:=Nf aa;clear aa hd hx;have uM:m'<most:=Ua
    go_wp2_with (go_at_call 115;refine(ihx A' cap' (most-m') _ (hs.later Jb) Ua Ua).mono ?_;rintro r w1 ⟨rfl,ac⟩)
    exact Ucm
  ·exact Ubs
theorem Jz.keep1 {P:Program} {k e:TypeId} {w w':World} {b n:Nat} {f:ByteArray->Option Int} (h:Jz P k e w b n f) (hb:w'.heap[b]?=w.heap[b]?):Jz P k e w' b n f:=by
 obtain⟨D,h1,h2,h3⟩:=h;obtain⟨es,clock,hh,F,hs,hD⟩:=h1;exact⟨D,⟨es,clock,hb.trans hh,F,hs,hD⟩,h2,h3⟩
structure Chg (bo B:Nat) (r:Option Nat) (W W':World):Prop where
 os:W'.os=W.os
 tape:W'.tape=W.tape
 output:W'.output=W.output
 size:W.heap.size<=W'.heap.size
 block:∀k,k<W.heap.size->k≠bo->k≠B->some k≠r->W'.heap[k]?=W.heap[k]?
theorem Chg.bel {bo B:Nat} {r:Option Nat} {W W':World} (h:Below W.heap.size W W'):Chg bo B r W W':=⟨h.os,h.tape,h.output,h.size,fun k hk _ _ _=>h.block k hk⟩
theorem Chg.grown {bo B:Nat} {r r':Option Nat} {W W':World} (h:W.grownBy W' r') (hr:r'=some bo\/r'=some B\/r'=r):Chg bo B r W W':=
 ⟨h.os,h.tape,h.output,h.size,fun k hk h1 h2 h3=>h.block k hk fun he=>by
  rcases hr with hr|hr|hr
  ·rw [hr] at he;injection he with he;exact h1 he
  ·rw [hr] at he;injection he with he;exact h2 he
  ·rw [hr] at he;exact h3 he⟩
theorem Chg.trans {bo B:Nat} {r0 r1:Option Nat} {a b c:World} (h1:Chg bo B r0 a b) (h2:Chg bo B r1 b c) (hr:r1=r0\/∀k,r1=some k->a.heap.size<=k):Chg bo B r0 a c:=
 ⟨h2.os.trans h1.os,h2.tape.trans h1.tape,h2.output.trans h1.output,Nat.le_trans h1.size h2.size,fun k hk cW hB aS=>(h2.block k (Nr hk h1.size) cW hB (by
  rcases hr with rfl|hr
  ·exact aS
  ·intro he;have:=hr k he.symm;omega)).trans (h1.block k hk cW hB aS)⟩
theorem Chg.setCell {bo B:Nat} {r:Option Nat} {W W':World} (h:Chg bo B r W W') (o:Nat) (u:Value):Chg bo B r W (W'.setCell ⟨bo,o,none⟩ u):=
 ⟨h.os,h.tape,h.output,by have:=h.size;simpa using this,fun k hk h1 h2 h3=>(heap_setCell_other W' ⟨bo,o,none⟩ k u h1).trans (h.block k hk h1 h2 h3)⟩
def Jg0 (bs bo bw:Nat):Value:= .func (.func 116) #[] #[.pointer (some ⟨bs,0,none⟩),.pointer (some ⟨bo,0,none⟩),.pointer (some ⟨bw,0,none⟩)]
structure NSt (bs bo bw B base:Nat) (W:World) (v:Value) (l:List ByteArray) (d:ByteArray->Option Int) (n N:Nat):Prop where
 seen:W.cell? ⟨bs,0,none⟩=some (.map (some B))
 map:Jz Tryz.prog 9 3 W B n d
 out:W.cell? ⟨bo,0,none⟩=some v
 outf:W.frozen? ⟨bo,0,none⟩=false
 walk:W.cell? ⟨bw,0,none⟩=some (Jg0 bs bo bw)
 own:W.ownsRow base 9 1 v l.length (l.map .string)
 cnt:∀s,(Ka l s=true->1<=(d s).getD 0)/\(Ka l s=false->(d s).getD 0=0)/\(d s).getD 0<=(N:Int)
 size:base<=W.heap.size
theorem NSt.keep {bs bo bw B base:Nat} {W W':World} {v:Value} {l:List ByteArray} {d:ByteArray->Option Int} {n N:Nat} (h:NSt bs bo bw B base W v l d n N) (hs:∀k,k<W.heap.size->W'.heap[k]?=W.heap[k]?) (hz:W.heap.size<=W'.heap.size):NSt bs bo bw B base W' v l d n N:=by
 have hb:∀ {p:Addr} {u:Value},W.cell? p=some u->W'.cell? p=some u:=fun hc=>Jr (hs _ (Nu hc)) hc;exact⟨hb h.seen,h.map.keep hs,hb h.out,(World.frozen?_of_block (a:=⟨bo,0,none⟩) (hs bo (Nu (a:=⟨bo,0,none⟩) h.out))).trans h.outf,hb h.walk,Jpb h.own hs,h.cnt,by have:=h.size;omega⟩
def Jxj (bs bo bw B base:Nat) (w0:World) (x:Ex):Prop:=∀(A:Option Addr) (c:Nat),Jt w0 x A c->∀(W:World) (v:Value) (l:List ByteArray) (d:ByteArray->Option Int) (n N:Nat),Below w0.heap.size w0 W->NSt bs bo bw B base W v l d n N->
  l.length+x.size<=1000000->n+x.size<=1000000->N+x.size<=1000000->
  Calls Tryz.prog 116 #[exV x A c,.pointer (some ⟨bs,0,none⟩),.pointer (some ⟨bo,0,none⟩),.pointer (some ⟨bw,0,none⟩)] W fun r w'=>r = .returned (.tuple #[])/\(∃v' d' n',NSt bs bo bw B base w' v' (x.named l) d' n' (N+x.size)/\n'<=n+x.size/\(v'.ownBlock=v.ownBlock\/∀b,v'.ownBlock=some b->W.heap.size<=b))/\Chg bo B v.ownBlock W w'
theorem Jd2 {bo B base:Nat} {r:Option Nat} {w0 W wr:World} (hb:Below w0.heap.size w0 W) (h:Chg bo B r W wr) (h1:w0.heap.size<=bo) (h2:w0.heap.size<=B) (h3:∀b,r=some b->w0.heap.size<=b):Below w0.heap.size w0 wr:=
 ⟨h.os.trans hb.os,h.tape.trans hb.tape,h.output.trans hb.output,Nat.le_trans hb.size h.size,fun k hk=>(h.block k (Nr hk hb.size) Ua Ua (fun he=>by have:=h3 k he.symm;omega)).trans (hb.block k hk)⟩
theorem Jg6 {l:List ByteArray} {d:ByteArray->Option Int} {N N':Nat} (h:∀s,(Ka l s=true->1<=(d s).getD 0)/\(Ka l s=false->(d s).getD 0=0)/\(d s).getD 0<=(N:Int)) (hN:N<=N') :
  ∀s,(Ka l s=true->1<=(d s).getD 0)/\(Ka l s=false->(d s).getD 0=0)/\(d s).getD 0<=(N':Int):=fun s=>⟨(h s).1,(h s).2.1,by have:=(h s).2.2;omega⟩
theorem Jyp {l:List ByteArray} {d:ByteArray->Option Int} {N:Nat} {s0:ByteArray} (h:∀s,(Ka l s=true->1<=(d s).getD 0)/\(Ka l s=false->(d s).getD 0=0)/\(d s).getD 0<=(N:Int)) (h0:s0.toList.isEmpty=false) :
  ∀s,(Ka (Yw l s0) s=true->1<=((upd d s0 ((d s0).getD 0+1)) s).getD 0)/\(Ka (Yw l s0) s=false->((upd d s0 ((d s0).getD 0+1)) s).getD 0=0)/\((upd d s0 ((d s0).getD 0+1)) s).getD 0<=((N+1:Nat):Int):=by
 intro s;have hs:=h s;have h00:=h s0
 have hpos:0<=(d s0).getD 0:=by
  cases hb:Ka l s0
  ·rw [h00.2.1 hb];omega
  ·have:=h00.1 hb;omega
 unfold upd
 by_cases hd:s.data=s0.data
 ·have he:s=s0:=by ext1;exact hd
  subst he;rw [if_pos rfl];simp only [Option.getD_some]
  have dV:Ka (Yw l s) s=true:=by
   unfold Yw;rw [h0,if_neg Ul]
   cases hb:Ka l s
   ·rw [if_neg Ul,Jcx];simp
   ·rw [if_pos rfl];exact hb
  refine⟨fun _=>Ua,fun hf=>by rw [dV] at hf;simp at hf,by have:=hs.2.2;omega⟩
 ·rw [if_neg hd]
  have aS:(s0.toList == s.toList)=false:=by
   cases hb:(s0.toList == s.toList)
   ·exact Gd
   ·have:s0=s:=Zf.1 hb;exact absurd (by rw [this]) hd
  have bF:Ka (Yw l s0) s=Ka l s:=by
   unfold Yw;rw [h0,if_neg Ul]
   cases hb:Ka l s0
   ·rw [if_neg Ul,Jcx,aS,Bool.or_false]
   ·rw [if_pos rfl]
  rw [bF];exact⟨hs.1,hs.2.1,by have:=hs.2.2;omega⟩
theorem Jvx (bs bo bw B base:Nat) (uL:bs<base) (cW:bo<base) (aC:bw<base) (hB:B<base) (n1:bs≠bo) (n2:bs≠B) (n3:bw≠bo) (n4:bw≠B) (n5:bo≠B) (w0:World) (m1:w0.heap.size<=bo) (m2:w0.heap.size<=B) (m3:w0.heap.size<=base) (e:Ex):e.OK->Jxj bs bo bw B base w0 e:=by
 induction e using Ex.ind with
 | h e ih0=>
 intro aw Ae ce he W v l d n N dZ cP bC bd hs3;have ih:∀x∈e.sub,Jxj bs bo bw B base w0 x:=fun x hx=>ih0 x hx (Ex.OK_sub aw hx);have fE:e.name.size<=maxLen:=by cases e;exact aw.2.2.1
 clear ih0 aw;have ai:=he.len;unfold maxLen at ai;obtain⟨bI,aD⟩:=ai;have rT:Ex.sizeL e.sub+1<=e.size:=by have:=Ex.size_eq e;omega
 have hsz2:e.size<=Ex.sizeL e.sub+1:=by have:=Ex.size_eq e;omega
 have cQ:=Jj5 l e.name;have bH:=Nf (Ex.named_eq l e);obtain⟨c1,c2,c3,c4,c5,c6,c7,c8⟩:=cP;obtain⟨ji,je,hq3⟩:=c7 e.name;have C7:=Nf c7;clear c7;have hU:=Nf (fun b hb=>c6.lt b hb);have hBW:=c2.lt;unfold exV Jg0 at *
 cases aL:e.name.toList.isEmpty
 case true=>
  have fw:Yw l e.name=l:=by unfold Yw;rw [if_pos aL]
  rw [fw] at bH cQ;clear fw
  go_enter Tryz.func116,Tryz.ntmps116
  go_wp2_with fail
  refine Jo fun W0 ag=>?_
  have jx:NSt bs bo bw B base W0 v l d n (N+1):=by
   have:=NSt.keep (W':=W0) ⟨c1,c2,c3,c4,c5,c6,C7.out,c8⟩ (fun k hk=>by rw [ag];exact heap_alloc_old W _ hk) La;exact⟨this.seen,this.map,this.out,this.outf,this.walk,this.own,Jg6 this.cnt Ua,this.size⟩
  have iW:v.ownBlock=v.ownBlock\/∀b,v.ownBlock=some b->W.heap.size<=b:= .inl rfl;have lh:Chg bo B v.ownBlock W W0:=by rw [ag];exact Chg.bel (Jc (Nt) _)
  have bD:W.heap.size<=W0.heap.size:=La;have bg:n<=n+1:=Ua;clear ag c1 c2 c3 c4 c5 c6
  go_loopw [28] (fun i wr=>∃(k:Nat) (V:Value) (l2:List ByteArray) (d2:ByteArray->Option Int) (n2 N2:Nat),k<=e.sub.length/\i = .int .i64 k/\Ex.namedL l2 (e.sub.drop k)=e.named l/\NSt bs bo bw B base wr V l2 d2 n2 N2/\(V.ownBlock=v.ownBlock\/∀b,V.ownBlock=some b->W.heap.size<=b)/\Chg bo B v.ownBlock W wr/\l2.length+Ex.sizeL (e.sub.drop k)<=1000000/\n2+Ex.sizeL (e.sub.drop k)<=n+e.size/\N2+Ex.sizeL (e.sub.drop k)<=N+e.size) (fun i _=>e.sub.length-(intOf i).toNat)
  case atStart=>exact⟨0,v,l,d,n,N+1,Np,rfl,D2,jx,iW,lh,Vm,Vm,Vm⟩
  case round=>
   exact Tx
 case false=>
  have hN:(N:Int)<=1000000:=Ua;have hbsw:bs<W.heap.size:=Ua;have hbow:bo<W.heap.size:=Ua;have hbww:bw<W.heap.size:=Ua;have hC:=Nf (Jyp (s0:=e.name) C7.out aL)
  have HNE:=Nf (show ∀b,b<base->v.ownBlock=none\/v.ownBlock≠some b from fun b hb=>by
   cases hv:v.ownBlock with
   | none=>exact .inl rfl
   | some g=>
    right
    intro he;injection he with he;have:=(hU.out g hv).1;omega)
  have lp:((upd d e.name ((d e.name).getD 0+1)) e.name).getD 0=(d e.name).getD 0+1:=by unfold upd;rw [if_pos rfl];rfl
  cases hh:Ka l e.name
  case true=>
   have fw:Yw l e.name=l:=by unfold Yw;rw [aL,if_neg Ul,if_pos hh]
   have iv:=ji hh;have ht:((((upd d e.name ((d e.name).getD 0+1)) e.name).getD 0) == 1)=false:=by rw [lp];simp;omega
   rw [fw] at bH cQ hC;clear fw hh lp ji je
   go_enter Tryz.func116,Tryz.ntmps116
   go_wp2_with (first|(at_lookup;refine Qb rfl (.tmp _) (.tmp _) 115 rfl Tryz.underlying9 Tryz.underlying115 Tryz.underlying3 (Kj _) B n d e.name rfl (by with_reducible exact Jz.alloc c2) rfl fE ?_)|(at_mapUpdate;go_loud (refine Jau rfl (.tmp 10) (.tmp 12) (.tmp 14) 115 rfl Tryz.underlying9 Tryz.underlying115 Tryz.underlying3 B n d e.name ((d e.name).getD 0+1) rfl Udh Ua rfl rfl fE Ua ?_;intro w2 cI aG;have br:W.heap.size+1<=w2.heap.size:=D0;have dz:=(fun b (h1:b<W.heap.size+1) (h2:b≠B)=>aG.block b Lw Lg);have kz2:=Nb w2 W.heap.size 2 (.string e.name) (Jr (dz W.heap.size Ua Ua) Uq);have kz3:=Nb w2 W.heap.size 3 (.slice Ae e.sub.length ce) (Jr (dz W.heap.size Ua Ua) Uq);have ks:=Nb w2 bs 0 (.map (some B)) (Jr (dz bs Ua n2) (Ja (Jc (Nt) _) c1));have ko:w2.cell? ⟨bo,0,none⟩=some v:=Jr (dz bo Ua n5) (Ja (Jc (Nt) _) c3);have kof:=Nc w2 bo 0 ((World.frozen?_of_block (a:=⟨bo,0,none⟩) (dz bo Ua n5)).trans (((Jc (Nt) _).frozen (p:=⟨bo,0,none⟩) (show bo<W.heap.size by omega)).trans c4));have kw:=Nb w2 bw 0 (Jg0 bs bo bw) (Jr (dz bw Ua n4) (Ja (Jc (Nt) _) c5));have jJ:=(Js c6 (o:=_)).kept aG (HNE.out B hB);have HK2:=Nf dz;have kr:=Nf aG;have KW:=Nf kw;clear dz aG kw c1 c3 c4 c5))|(at_lookup;refine Qb rfl (.tmp _) (.tmp _) 115 rfl Tryz.underlying9 Tryz.underlying115 Tryz.underlying3 (Kj _) B (n+1) (upd d e.name ((d e.name).getD 0+1)) e.name rfl (by with_reducible exact cI) rfl fE ?_))
   refine Jo fun W0 ag=>?_
   have jx:NSt bs bo bw B base W0 v l (upd d e.name ((d e.name).getD 0+1)) (n+1) (N+1):=by
    rw [ag];exact⟨ks,cI,ko,kof,KW.out,jJ,hC.out,Ua⟩
   have iW:v.ownBlock=v.ownBlock\/∀b,v.ownBlock=some b->W.heap.size<=b:= .inl rfl;have lh:Chg bo B v.ownBlock W W0:=by rw [ag];exact Chg.trans (Chg.bel (Jc (Nt) _)) (Chg.grown kr.out (.inr (.inl rfl))) (.inl rfl)
   have bD:W.heap.size<=W0.heap.size:=Lk;have bg:n+1<=n+1:=Ua;clear ag ks cI ko kof kz2 kz3 jJ
   go_loopw [28] (fun i wr=>∃(k:Nat) (V:Value) (l2:List ByteArray) (d2:ByteArray->Option Int) (n2 N2:Nat),k<=e.sub.length/\i = .int .i64 k/\Ex.namedL l2 (e.sub.drop k)=e.named l/\NSt bs bo bw B base wr V l2 d2 n2 N2/\(V.ownBlock=v.ownBlock\/∀b,V.ownBlock=some b->W.heap.size<=b)/\Chg bo B v.ownBlock W wr/\l2.length+Ex.sizeL (e.sub.drop k)<=1000000/\n2+Ex.sizeL (e.sub.drop k)<=n+e.size/\N2+Ex.sizeL (e.sub.drop k)<=N+e.size) (fun i _=>e.sub.length-(intOf i).toNat)
   case atStart=>exact⟨0,v,l,(upd d e.name ((d e.name).getD 0+1)),(n+1),N+1,Np,rfl,D2,jx,iW,lh,Vm,Vm,Vm⟩
   case round=>
    exact Tx
  case false=>
   have fw:Yw l e.name=l ++ [e.name]:=by unfold Yw;rw [aL,if_neg Ul,if_neg (by simp [hh])]
   have iv:=je hh;have hq00:0<=(d e.name).getD 0:=Ua;have ht:((((upd d e.name ((d e.name).getD 0+1)) e.name).getD 0) == 1)=true:=by rw [lp];simp;omega
   have HQ0:=Nf iv;rw [fw] at bH cQ hC;clear fw hh lp ji je iv
   go_enter Tryz.func116,Tryz.ntmps116
   go_wp2_with (first|(at_lookup;refine Qb rfl (.tmp _) (.tmp _) 115 rfl Tryz.underlying9 Tryz.underlying115 Tryz.underlying3 (Kj _) B n d e.name rfl (by with_reducible exact Jz.alloc c2) rfl fE ?_)|(at_mapUpdate;go_loud (refine Jau rfl (.tmp 10) (.tmp 12) (.tmp 14) 115 rfl Tryz.underlying9 Tryz.underlying115 Tryz.underlying3 B n d e.name ((d e.name).getD 0+1) rfl Udh Ua rfl rfl fE Ua ?_;intro w2 cI aG;have br:W.heap.size+1<=w2.heap.size:=D0;have dz:=(fun b (h1:b<W.heap.size+1) (h2:b≠B)=>aG.block b Lw Lg);have kz2:=Nb w2 W.heap.size 2 (.string e.name) (Jr (dz W.heap.size Ua Ua) Uq);have kz3:=Nb w2 W.heap.size 3 (.slice Ae e.sub.length ce) (Jr (dz W.heap.size Ua Ua) Uq);have ks:=Nb w2 bs 0 (.map (some B)) (Jr (dz bs Ua n2) (Ja (Jc (Nt) _) c1));have ko:w2.cell? ⟨bo,0,none⟩=some v:=Jr (dz bo Ua n5) (Ja (Jc (Nt) _) c3);have kof:=Nc w2 bo 0 ((World.frozen?_of_block (a:=⟨bo,0,none⟩) (dz bo Ua n5)).trans (((Jc (Nt) _).frozen (p:=⟨bo,0,none⟩) (show bo<W.heap.size by omega)).trans c4));have kw:=Nb w2 bw 0 (Jg0 bs bo bw) (Jr (dz bw Ua n4) (Ja (Jc (Nt) _) c5));have jJ:=(Js c6 (o:=_)).kept aG (HNE.out B hB);have HK2:=Nf dz;have kr:=Nf aG;have KW:=Nf kw;clear dz aG kw c1 c3 c4 c5))|(at_lookup;refine Qb rfl (.tmp _) (.tmp _) 115 rfl Tryz.underlying9 Tryz.underlying115 Tryz.underlying3 (Kj _) B (n+1) (upd d e.name ((d e.name).getD 0+1)) e.name rfl (by with_reducible exact cI) rfl fE ?_)|(at_builtin;go_loud (refine Z2 rfl (.tmp 20) (.tmp 23) 121 rfl base 9 _ 1 16 Tryz.underlying121 Zq rfl Ua v l.length (l.map .string) w2.heap.size 1 1 [.string e.name] rfl (Js jJ) rfl rfl (fun j u hj=>by rw [Qo rfl];simpa using hj) Uv Ua Ua Uj ?_;intro v3 w3 aE bJ iM;have fe:w2.heap.size+1<=w3.heap.size:=(by have:=bJ.size;simpa using this);have dU:=(fun b (h1:b<base)=>Jii jJ Ua (Jc (Nt) _) bJ b h1);have ks3:=Nb w3 bs 0 (.map (some B)) (Jr (dU bs uL) ks);have ko3:w3.cell? ⟨bo,0,none⟩=some v:=Jr (dU bo cW) ko;have kof3:=Nc w3 bo 0 ((World.frozen?_of_block (a:=⟨bo,0,none⟩) (dU bo cW)).trans kof);have kw3:=Nb w3 bw 0 (Jg0 bs bo bw) (Jr (dU bw aC) KW.out);have kz3':=Nb w3 W.heap.size 3 (.slice Ae e.sub.length ce) (Jr ((bJ.block W.heap.size Uj (fun he=>by have:=(hU.out _ he.symm).2;omega)).trans (heap_alloc_old _ _ Ua)) kz3);have kV:=cI.keep1 (dU B hB);obtain⟨A3,cv3,rfl,it,iu⟩:=Jv aE;have HG3:=Nf bJ;have HM3:=Nf kV;have HO3:=Nf aE;have KW3:=Nf kw3;have HV3:=Nf iM;clear bJ dU kV aE kw3 iM)))
   refine Jo fun W0 ag=>?_
   have jx:NSt bs bo bw B base W0 (.slice A3 (l.length+1) cv3) (l ++ [e.name]) (upd d e.name ((d e.name).getD 0+1)) (n+1) (N+1):=by
    rw [ag];refine⟨?_,HM3.out.keep1 (heap_setCell_other w3 ⟨bo,0,none⟩ B _ (fun h=>n5 h.symm)),Nx _ _ _ ko3,(World.frozen?_setCell ..).trans kof3,?_,?_,hC.out,Uj⟩
    ·exact(World.cell?_setCell_other _ _ _ _ (by intro h;injection h with h1;exact n1 h1.symm)).trans ks3
    ·exact(World.cell?_setCell_other _ _ _ _ (by intro h;injection h with h1;exact n3 h1.symm)).trans KW3.out
    ·rw [List.map_append,Nk];exact Jbd HO3.out cW _ _
   have iW:(Value.slice A3 (l.length+1) cv3).ownBlock=v.ownBlock\/∀b,(Value.slice A3 (l.length+1) cv3).ownBlock=some b->W.heap.size<=b:=by
    rcases HV3.out with h|h
    ·exact .inl h
    ·exact .inr fun b hb=>Fy
   have lh:Chg bo B v.ownBlock W W0:=by
    rw [ag];exact(Chg.trans (Chg.trans (Chg.trans (Chg.bel (Jc (Nt) _)) (Chg.grown kr.out (.inr (.inl rfl)) (r:=v.ownBlock)) (.inl rfl)) (Chg.bel (Jc (Nt) _) (r:=v.ownBlock)) (.inl rfl)) (Chg.grown HG3.out (.inr (.inr rfl))) (.inl rfl)).setCell _ _
   have bD:W.heap.size<=W0.heap.size:=Su;have bg:n+1<=n+1:=Ua;clear ag ks cI ko kof kz2 kz3 jJ ks3 ko3 kof3 kz3'
   go_loopw [28] (fun i wr=>∃(k:Nat) (V:Value) (l2:List ByteArray) (d2:ByteArray->Option Int) (n2 N2:Nat),k<=e.sub.length/\i = .int .i64 k/\Ex.namedL l2 (e.sub.drop k)=e.named l/\NSt bs bo bw B base wr V l2 d2 n2 N2/\(V.ownBlock=v.ownBlock\/∀b,V.ownBlock=some b->W.heap.size<=b)/\Chg bo B v.ownBlock W wr/\l2.length+Ex.sizeL (e.sub.drop k)<=1000000/\n2+Ex.sizeL (e.sub.drop k)<=n+e.size/\N2+Ex.sizeL (e.sub.drop k)<=N+e.size) (fun i _=>e.sub.length-(intOf i).toNat)
   case atStart=>exact⟨0,(.slice A3 (l.length+1) cv3),(l ++ [e.name]),(upd d e.name ((d e.name).getD 0+1)),(n+1),N+1,Np,rfl,D2,jx,iW,lh,Vm,Vm,Vm⟩
   case round=>
    exact Tx
theorem Jq5 {P:Program} {f:FuncId} {args:Array Value} {R:Ending->World->Prop} {W:World} (h:∀W0,W0=W->Calls P f args W0 R):Calls P f args W R:=h W rfl
theorem Jvk (e:Ex) (A:Option Addr) (cap:Nat) (w:World) (he:Jt w e A cap) (aw:e.OK) (hz:e.size<=1000000) :
  Calls Tryz.prog 79 #[exV e A cap] w fun r w'=>(∃v,r = .returned v/\w'.ownsRow w.heap.size 9 1 v (Kx e).length ((Kx e).map .string))/\Below w.heap.size w w':=by
 have li:=fun W h=>Jru e A cap 121 W (he.later h) Ua Ua;have ct:=Ex.count_bd e 121;have hv:Kx e=if 120<e.count 121 then [] else e.named []:=rfl;generalize e.count 121=c at *
 by_cases hc:120<c
 ·rw [if_pos hc] at hv;unfold exV at *;have HV:=Nf hv;clear hv
  go_enter Tryz.func79,Tryz.ntmps79
  go_wp2_with (first|(go_at_call 115;refine mo (li _ Jb) fun w1 ac ak af bV=>?_;(try simp at af);(try have bV:=lt0 w w1);(try have gq:=ltA w 1 w1);(try have ow:=ltA w 2 w1);(try have ns:=lt0 wr w1);(try have nt:=ltA wr 1 w1)))
  go_ret;exact⟨⟨_,rfl,by rw [HV.out];exact Nw⟩,Jb⟩
 ·rw [if_neg hc] at hv;have fP:=Nf (fun(bs bo bw B base:Nat) (uL:bs<base) (cW:bo<base) (aC:bw<base) (hB:B<base) (n1:bs≠bo) (n2:bs≠B) (n3:bw≠bo) (n4:bw≠B) (n5:bo≠B) (w0:World) (m1:w0.heap.size<=bo) (m2:w0.heap.size<=B) (m3:w0.heap.size<=base)=>Jvx bs bo bw B base uL cW aC hB n1 n2 n3 n4 n5 w0 m1 m2 m3 e aw);have HE:=Nf he;clear aw he;unfold exV at *;have HV:=Nf hv;clear hv;have gI:=@run_makeMap Tryz.prog;have gZ:∀(fn:Fn) (first cap:Array Value) (w:World),(Instr.makeFunc fn first cap).run Tryz.prog w = .ok (.func fn first cap) w:=fun _ _ _ _=>rfl;have hsf:=fun(a:Addr) (fn:Fn) (x y:Array Value) (m:Mode) (w:World)=>run_store Tryz.prog w a (.func fn x y) m rfl
  go_enter Tryz.func79,Tryz.ntmps79
  go_wp2_with (first|(go_at_call 115;refine(li _ Jb).mono ?_;rintro r w1 ⟨rfl,ac⟩;have ak:=Jg ac;have af:=ac.size;(try simp at af);have bV:=lt0 w w1;have gq:w.heap.size<w1.heap.size+1:=Ua;have ow:w.heap.size<w1.heap.size+1+1:=Ua;have ns:w.heap.size<w1.heap.size+1+1+1:=Ua;have nt:¬w1.heap.size+1+1+1=w.heap.size:=Ua))
  refine Jq5 fun Wc tp=>?_;have bU:=Nd w1 Wc (by rw [tp];exact Jc (Jc (Jc (Jc (Nt) _) _) _) _)
  have gS:=Nd w w1 Jb;have hbwc:=Nd w Wc (Jd gS bU);have iG:Wc.heap.size=w1.heap.size+4:=by rw [tp];simp
  have cP:NSt (w1.heap.size+1+1) w1.heap.size (w1.heap.size+1+1+1) (w1.heap.size+1) (w1.heap.size+4) Wc (.slice none 0 0) [] (fun _=>none) 0 0:=by
   refine⟨by rw [tp];go_simp,?_,by rw [tp];go_simp,by rw [tp];go_simp,by rw [tp];unfold Jg0;go_simp,Nw,fun s=>⟨fun h=>by simp [Ka] at h,fun _=>rfl,Ul⟩,Ua⟩;rw [tp];have:=(Jz.made (P:=Tryz.prog) (k:=9) (e:=3) (w1.alloc (.cells #[.slice none 0 0] 121))).alloc (o:= .cells #[.map (some (w1.heap.size+1))] 115);have h2:=this.alloc (o:= .cells #[.func (.func 116) #[] #[.pointer (some ⟨w1.heap.size+1+1,0,none⟩),.pointer (some ⟨w1.heap.size,0,none⟩),.pointer (some ⟨w1.heap.size+1+1+1,0,none⟩)]] 191);exact Lg
  have he1:=HE.out.later gS;clear tp gZ gI hsf;refine((fP.out (w1.heap.size+1+1) w1.heap.size (w1.heap.size+1+1+1) (w1.heap.size+1) (w1.heap.size+4) Ua Ua Ua Ua Ua Ua Ua Ua Ua w1 Ua Ua Ua) A cap he1 Wc (.slice none 0 0) [] (fun _=>none) 0 0 bU cP Mg Mg Mg).mono ?_;rintro r w3 ⟨rfl,⟨v3,d3,n3,ft,sR,fv⟩,ja⟩;have ko:=ft.out;have cJ:=Nf ft;have HCH:=Nf ja;clear ft ja cP fv
  go_wp2_with fail
  go_ret;exact⟨⟨_,rfl,by rw [HV.out];exact K8 cJ.out.own Ua⟩,Jd2 (base:=w1.heap.size+4) hbwc HCH.out Ua Ua (fun b hb=>by simp [Value.ownBlock] at hb)⟩
def Yq (w:World) (l:List Int) (A:Option Addr) (cap:Nat):Prop:=
 l.length<=cap/\cap<=maxLen/\(0<l.length->∃b off,A=some ⟨b,off,none⟩/\∀(k:Nat) (x:Int),l[k]?=some x->w.cell? ⟨b,off+k,none⟩=some (.int .i64 x))
theorem Yq.later {w w':World} {l:List Int} {A:Option Addr} {cap:Nat} (h:Yq w l A cap) (hb:Below w.heap.size w w'):Yq w' l A cap:=
 ⟨h.1,h.2.1,fun hl=>by
  obtain⟨b,off,hA,hr⟩:=h.2.2 hl;exact⟨b,off,hA,fun k s hk=>Ja hb (hr k s hk)⟩⟩
theorem Yq.drewN {w:World} {l:List Int} {A:Option Addr} {cap:Nat} (h:Yq w l A cap) (n:Nat):Yq (w.drewN n) l A cap:=h.later (J8 (Nt) n)
theorem Yq.get {w:World} {l:List Int} {A:Option Addr} {cap k:Nat} {x:Int} (h:Yq w l A cap) (hk:l[k]?=some x):∃b off,A=some ⟨b,off,none⟩/\b<w.heap.size/\w.cell? ⟨b,off+k,none⟩=some (.int .i64 x):=by
 have am:k<l.length:=(Nh hk).1;obtain⟨b,off,hA,hr⟩:=h.2.2 Ua;exact⟨b,off,hA,Nu (hr k x hk),hr k x hk⟩
theorem Yq.of_own {w:World} {base:Nat} {e:TypeId} {l:List Int} {A:Option Addr} {cap:Nat} (h:w.ownsRow base e 1 (.slice A l.length cap) l.length (l.map (.int .i64))):Yq w l A cap:=by
 exact Uaw
def Jb2 (d:ByteArray->Option Int) (l:List ByteArray):Bool:=l.all fun s=>!(d s).isSome
theorem Jf0 (l:List ByteArray) (A:Option Addr) (cap:Nat) (B n:Nat) (d:ByteArray->Option Int) (w:World) (hl:Qf w l A cap) (hm:Jz Tryz.prog 9 3 w B n d) (hs:∀s∈l,s.size<=maxLen) :
  Calls Tryz.prog 47 #[.map (some B),.slice A l.length cap] w fun r w'=>r = .returned (.bool (Jb2 d l))/\Below w.heap.size w w':=by
 have ai:=hl.len;unfold maxLen at ai;obtain⟨jD,jE⟩:=ai;have HS:=Nf hs;clear hs
 go_enter Tryz.func47,Tryz.ntmps47
 go_wp2_with fail
 go_loopw [4,11] (fun o i wr=>∃k:Nat,k<=l.length/\i = .int .i64 k/\o = .bool false/\Jb2 d (l.drop k)=Jb2 d l/\Below w.heap.size w wr) (fun _ i _=>l.length-(intOf i).toNat)
 case atStart=>exact⟨0,Np,rfl,rfl,rfl,Jb⟩
 case round=>
  obtain⟨k,hk,rfl,rfl,aa,ab⟩:=hrel;have ej:=hm.bel ab
  by_cases am:k<l.length
  ·have hx:l[k]?=some l[k]:=Ng am;have aj:l[k]∈l:=Nj am;have hd:l.drop k=l[k] :: l.drop (k+1):=No am;generalize l[k]=x at hx hd aj;have dT:=HS.out x aj;obtain⟨b,off,rfl,aH,d0⟩:=(hl.later ab).get hx;rw [hd] at aa;rw [show Jb2 d (x :: l.drop (k+1))=(!(d x).isSome && Jb2 d (l.drop (k+1))) from rfl] at aa;clear hd hx aj
   cases dj:(d x).isSome
   ·rw [dj,Bool.not_false,Bool.true_and] at aa;have HR:=Nf aa;clear aa
    go_wp2_with (first|(at_lookup;refine Qh rfl (.tmp 16) (.tmp 17) 116 rfl Tryz.underlying9 Tryz.underlying116 Tryz.underlying3 (Kj _) B n d x rfl ej rfl dT ?_))
    go_roundw
    case rel=>exact⟨k+1,Ua,Up,rfl,HR.out,Jb⟩
    case measure=>simp [intOf];omega
   ·rw [dj,Bool.not_true,Bool.false_and] at aa;have HR:=Nf aa;clear aa
    go_wp2_with (first|(at_lookup;refine Qh rfl (.tmp 16) (.tmp 17) 116 rfl Tryz.underlying9 Tryz.underlying116 Tryz.underlying3 (Kj _) B n d x rfl ej rfl dT ?_))
    exact Udg
  ·exact Ub1
end Go.Proofs.YtknfcamdfdfoeaaGreatDoor
