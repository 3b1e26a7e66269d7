/- Lemmas. -/
import Derived.Test.YtknfcamdfdfoeaaGreatDoorMac
import Derived.Test.YtknfcamdfdfoeaaGreatDoorZ01
import Derived.Test.YtknfcamdfdfoeaaGreatDoorZ00
import Derived.Maps.Own
import Derived.Maps.OwnOps
import Derived.Maps.OwnSet
import Derived.Maps.Views
import Derived.StringKeys
import Derived.WalkArith
import Derived.Test.YtknfcamdfdfoeaaGreatDoorRows
set_option linter.unusedVariables false
set_option linter.unusedSimpArgs false
set_option maxRecDepth 100000
set_option maxHeartbeats 64000000
namespace Go.Proofs.YtknfcamdfdfoeaaGreatDoor
open Go.RowKit
theorem Jhw:∀(l:List Ex) (n:Int) (x:Ex),x∈l->x.depth<=Ex.depthL l n/\n<=Ex.depthL l n
 | [],n,x,h=>by cases h
 | y :: l,n,x,h=>by
  rw [Ex.depthL]
  have h2:max n y.depth<=Ex.depthL l (max n y.depth):=by
   cases l with
   | nil=>simp [Ex.depthL]
   | cons z l=>exact(Jhw (z :: l) (max n y.depth) z Ul).2
  rcases List.mem_cons.1 h with rfl|h
  ·exact Ua
  ·have:=(Jhw l (max n y.depth) x h).1;exact Ua
end Go.Proofs.YtknfcamdfdfoeaaGreatDoor
namespace Go.Proofs.YtknfcamdfdfoeaaGreatDoor
open Go.RowKit Go.Sort Go.Maps Go.ChangeMaps Go.WideMaps
def upd (f:ByteArray->Option Int) (s:ByteArray) (v:Int):ByteArray->Option Int:=fun t=>if t.data=s.data then some v else f t
def Jz (P:Program) (k e:TypeId) (w:World) (b n:Nat) (f:ByteArray->Option Int):Prop:=
 ∃D:DataW Unit,w.ownsMap P k (plainElem P e) b n D/\Maps.IsMap D/\
  ∀s:ByteArray,Maps.has D (.string s.data.toList)=(f s).isSome/\D.atKey (.string s.data.toList) (.lit (.int .i64 0)) = .lit (.int .i64 ((f s).getD 0))
section
variable {P:Program} {k e:TypeId} {w w':World} {b n:Nat} {f:ByteArray->Option Int}
theorem Jz.made (w:World):Jz P k e (w.alloc (.map #[] 0)) w.heap.size 0 (fun _=>none):=
 ⟨.map [],World.ownsMap_made w P k _,isMap_empty,fun s=>⟨rfl,rfl⟩⟩
theorem Jz.keep (h:Jz P k e w b n f) (hb:∀k,k<w.heap.size->w'.heap[k]?=w.heap[k]?):Jz P k e w' b n f:=by
 obtain⟨D,h1,h2,h3⟩:=h;have am:=h1.lt;obtain⟨es,clock,hh,F,hs,hD⟩:=h1;exact⟨D,⟨es,clock,(hb b am).trans hh,F,hs,hD⟩,h2,h3⟩
theorem Jz.lt (h:Jz P k e w b n f):b<w.heap.size:=by
 obtain⟨D,h1,_⟩:=h;exact h1.lt
theorem Jz.bel (h:Jz P k e w b n f) (hb:Below w.heap.size w w'):Jz P k e w' b n f:=h.keep hb.block
theorem Jz.alloc (h:Jz P k e w b n f) {o:Obj} : Jz P k e (w.alloc o) b n f:=h.bel (Jc (Below.refl _ _) o)
theorem Jz.drew (h:Jz P k e w b n f):Jz P k e w.drew b n f:=h
theorem Qb {ops:Array Oper} {rest:List Oper} {o:Oper} {a:Act} {Q:Exit->Act->World->Prop} (hg:o.guard=none) (m x:Operand) (t:TypeId) (jf:o.op=Op.lookup t m x false)
  (hk:P.underlying k=some .string) (ht:P.underlying t=some (.map k e)) (he:P.underlying e=some (.int .i64)) (hz:(zeroValue e).run P w = .ok (.int .i64 0) w)
  (b n:Nat) (f:ByteArray->Option Int) (s:ByteArray) (hm:a.eval m = .map (some b)) (ae:Jz P k e w b n f) (hx:a.eval x = .string s) (hs:s.size<=maxLen)
  (hK:wpList P ops Q rest (a.put o.dst (.int .i64 ((f s).getD 0))) w):wpList P ops Q (o :: rest) a w:=by
 obtain⟨D,h1,h2,h3⟩:=ae;refine wpList_lookup_own_int w hg m x t jf k e .i64 (string_keyed hk) ht he hz b n D hm h1 _ _ hx (keyOf_string_mk hk hs) fun c hc _=>?_;rw [(h3 s).2] at hc;have:(f s).getD 0=c:=by injection hc with hc;injection hc
 rw [<-this];exact hK
theorem Qh {ops:Array Oper} {rest:List Oper} {o:Oper} {a:Act} {Q:Exit->Act->World->Prop} (hg:o.guard=none) (m x:Operand) (t:TypeId) (jf:o.op=Op.lookup t m x true)
  (hk:P.underlying k=some .string) (ht:P.underlying t=some (.map k e)) (he:P.underlying e=some (.int .i64)) (hz:(zeroValue e).run P w = .ok (.int .i64 0) w)
  (b n:Nat) (f:ByteArray->Option Int) (s:ByteArray) (hm:a.eval m = .map (some b)) (ae:Jz P k e w b n f) (hx:a.eval x = .string s) (hs:s.size<=maxLen)
  (hK:wpList P ops Q rest (a.put o.dst (.tuple #[.int .i64 ((f s).getD 0),.bool (f s).isSome])) w):wpList P ops Q (o :: rest) a w:=by
 obtain⟨D,h1,h2,h3⟩:=ae;refine wpList_lookup_own_ok_int w hg m x t jf k e .i64 (string_keyed hk) ht he hz b n D hm h1 _ _ hx (keyOf_string_mk hk hs) fun c hc _=>?_;rw [(h3 s).2] at hc;have:(f s).getD 0=c:=by injection hc with hc;injection hc
 rw [<-this,(h3 s).1];exact hK
theorem Jau {ops:Array Oper} {rest:List Oper} {o:Oper} {a:Act} {Q:Exit->Act->World->Prop} (hg:o.guard=none) (m x v:Operand) (t:TypeId) (jf:o.op=Op.mapUpdate t m x v)
  (hk:P.underlying k=some .string) (ht:P.underlying t=some (.map k e)) (he:P.underlying e=some (.int .i64))
  (b n:Nat) (f:ByteArray->Option Int) (s:ByteArray) (i:Int) (hm:a.eval m = .map (some b)) (ae:Jz P k e w b n f) (hn:n<1000000000) (hx:a.eval x = .string s) (hv:a.eval v = .int .i64 i)
  (hs:s.size<=maxLen) (hi : -9223372036854775808<=i/\i<=9223372036854775807)
  (hK:∀w',Jz P k e w' b (n+1) (upd f s i)->w.grownBy w' (some b)->wpList P ops Q rest (a.put o.dst undef) w'):wpList P ops Q (o :: rest) a w:=by
 obtain⟨D,h1,h2,h3⟩:=ae;refine wpList_mapUpdate_own w hg m x v t jf k e (string_keyed hk) ht _ b n D hm h1 U2 _ _ _ hx hv (keyOf_string_mk hk hs) _ [] (plainElem_int he (WalkArith.wf_i64 hi)) fun w' h4 h5=>hK w' ⟨_,h4,?_,fun t=>?_⟩ h5
 ·exact h2.put _ _
 ·by_cases aU:t.data=s.data
  ·have dz:WideAt.IsKeyLit (.string s.data.toList):=Th;rw [aU,has_put_same h2 dz,atKey_put_same h2 dz];simp [upd,aU]
  ·exact Ubk
end
end Go.Proofs.YtknfcamdfdfoeaaGreatDoor
namespace Go.Proofs.YtknfcamdfdfoeaaGreatDoor
open Go.RowKit
def Xf:List Va->ByteArray->Int->Option Int
 | [],_,_=>none
 | v :: l,s,i=>if s.data=v.name.data then some i else Xf l s (i+1)
theorem Jli:∀ {l:List Va} {s:ByteArray} {i j:Int},Xf l s i=some j->∃k v,j=i+(k:Nat)/\l[k]?=some v/\v.name=s
 | [],_,_,_,h=>by simp [Xf] at h
 | v :: l,s,i,j,h=>by
  unfold Xf at h
  split at h
  ·rename_i hs;simp at h;exact⟨0,v,Tf,rfl,by ext1;exact hs.symm⟩
  ·obtain⟨k,u,h1,h2,h3⟩:=Jli h;exact⟨k+1,u,Ua,Lg,h3⟩
def Qi (l:List Va) (s:ByteArray):Option Int:=Xf l s 0
theorem Zi {l:List Va} {s:ByteArray} {j:Int} (h:Qi l s=some j):∃(k:Nat) (v:Va),j=k/\l[k]?=some v/\v.name=s:=by
 obtain⟨k,v,h1,h2,h3⟩:=Jli h;exact⟨k,v,Ua,h2,h3⟩
def K7 (l:List Va) (s:ByteArray):Int×Bool:=
 match Qi l s with
 | none=>(0,false)
 | some j=>(match l[j.toNat]? with|some v=>v.type|none=>0,true)
def Jcg (op t:Int):Int×Bool:=
 if op=8\/op=9\/op=10 then(t,true)
 else if op=11\/op=12 then(2,true)
 else if op=13\/op=14\/op=15\/op=16 then(2,t == 1)
 else(1,t == 1)
def Je3 (k n named:Int) (ts:List Int):Int×Bool:=
 if k=1 then(1,true)
 else if k=2 then(2,true)
 else if k=3 then(named,true)
 else if k=4 then(ts.getD 0 0,(ts.getD 0 0 == 1 && n == 1) || (ts.getD 0 0 == 2 && n == 2))
 else if k=5 then((Jcg n (ts.getD 0 0)).1,(Jcg n (ts.getD 0 0)).2 && ts.getD 0 0 == ts.getD 1 0)
 else if k=6 then(ts.getD 1 0,ts.getD 0 0 == 2 && ts.getD 1 0 == ts.getD 2 0)
 else if k=7 then(ts.getD 0 0,ts.getD 0 0 == ts.getD 1 0)
 else if k=8\/k=9 then(ts.getD 0 0,named == 2)
 else if k=10 then(ts.getD 0 0,named == 2 && ts.getD 0 0 == ts.getD 1 0)
 else(0,true)
def Jbl (out:Int) (ok:Bool):Int×Int:=if ok=true/\(out=1\/out=2) then(out,0) else(0,20)
def Y2 (l:List Va) (k n:Int) (s:ByteArray) (ts:List Int):Int×Int:=
 if s.toList.isEmpty=false/\(K7 l s).2=false then(0,19) else Jbl (Je3 k n (K7 l s).1 ts).1 (Je3 k n (K7 l s).1 ts).2
def Ku (acc:List Int) (r:List Int×Int):List Int×Int:=if r.2=0 then(acc ++ r.1,0) else([],r.2)
namespace Ex
mutual
def typ (l:List Va):Ex->Int×Int
 | mk k n s sub=>if (typL l sub).2=0 then Y2 l k n s (typL l sub).1 else(0,(typL l sub).2)
def typL (l:List Va):List Ex->List Int×Int
 | []=>([],0)
 | x :: r=>if (typ l x).2=0 then Ku [(typ l x).1] (typL l r) else([],(typ l x).2)
end
theorem typ_eq (l:List Va) (e:Ex):e.typ l=if (typL l e.sub).2=0 then Y2 l e.kind e.n e.name (typL l e.sub).1 else(0,(typL l e.sub).2):=by cases e;rw [typ];rfl
end Ex
theorem Xq (r:List Int×Int) (h:r.2≠0->r.1 = []):Ku [] r=r:=by
 unfold Ku
 split
 ·simp;ext1 <;> simp [*]
 ·rename_i h2;ext1 <;> simp [h h2]
theorem Yb (l:List Va) (sub:List Ex):(Ex.typL l sub).2≠0->(Ex.typL l sub).1 = []:=by
 cases sub with
 | nil=>simp [Ex.typL]
 | cons x r=>
  simp only [Ex.typL,Ku]
  repeat' split
  all_goals simp_all
theorem Yl (l:List Va) (acc:List Int) (x:Ex) (r:List Ex) (h:(x.typ l).2=0):Ku acc (Ex.typL l (x :: r))=Ku (acc ++ [(x.typ l).1]) (Ex.typL l r):=by
 simp only [Ex.typL,if_pos h,Ku]
 repeat' split
 all_goals simp_all
theorem Yk (l:List Va) (acc:List Int) (x:Ex) (r:List Ex) (h:(x.typ l).2≠0):Ku acc (Ex.typL l (x :: r))=([],(x.typ l).2):=by
 simp only [Ex.typL,if_neg h,Ku]
theorem Jj4 (l:List Va):∀sub:List Ex,(Ex.typL l sub).2=0->(Ex.typL l sub).1.length=sub.length
 | [],_=>by simp [Ex.typL]
 | x :: r,h=>by
  have ih:=Jj4 l r;simp only [Ex.typL,Ku] at h ⊢
  repeat' split at h
  all_goals simp_all
def Je (p:Pr):List Va:=p.ins ++ p.outs ++ p.locals
theorem Jks:∀(l:List Va) (s:ByteArray) (i:Int),Xf l s i=none->Xb l s=none
 | [],_,_,_=>rfl
 | v :: l,s,i,h=>by
  unfold Xf at h
  split at h
  ·cases h
  ·rename_i hn;rw [Xb,if_neg,Jks l s (i+1) h];rw [Zf];intro he;exact hn (by rw [he])
def Jp (l:List Va) (s:ByteArray):Int:=(Qi l s).getD (-1)
theorem Jtv {x:Va} {l:List Va} {s:ByteArray} {i:Int} (h:(x.name.toList == s.toList)=true):Xf (x :: l) s i=some i:=by
 rw [Zf] at h;unfold Xf;rw [if_pos Ti]
theorem Jrt {x:Va} {l:List Va} {s:ByteArray} {i:Int} (h:(x.name.toList == s.toList)=false):Xf (x :: l) s i=Xf l s (i+1):=by
 have hn:¬s.data=x.name.data:=by
  intro he;have:x.name=s:=Ss;rw [this] at h;exact Lt
 rw [Xf,if_neg hn]
end Go.Proofs.YtknfcamdfdfoeaaGreatDoor
namespace Go.Proofs.YtknfcamdfdfoeaaGreatDoor
open Go.RowKit Go.Sort
theorem Xa (l:List Va) (A:Option Addr) (cap:Nat) (s:ByteArray) (w:World) (hl:Ju w l A cap) :
  Calls Tryz.prog 49 #[.slice A l.length cap,.string s] w fun r w'=>r = .returned (.int .i64 (Jp l s))/\Below w.heap.size w w':=by
 have ai:=hl.len;unfold maxLen at ai;obtain⟨jD,jE⟩:=ai
 go_enter Tryz.func49,Tryz.ntmps49
 go_wp2_with fail
 go_loopw [5] (fun i wr=>∃k:Nat,k<=l.length/\i = .int .i64 k/\Xf (l.drop k) s k=Qi l s/\Below w.heap.size w wr) (fun i _=>l.length-(intOf i).toNat)
 case atStart=>exact⟨0,Nat.zero_le _,rfl,rfl,Jb⟩
 case round=>
  obtain⟨k,hk,rfl,aa,ab⟩:=hrel
  by_cases am:k<l.length
  ·obtain⟨x,hx,-,hd⟩:=Kl am;obtain⟨b,off,rfl,aH,⟨d0,d1,d2,d3⟩⟩:=(hl.later ab).get hx;rw [hd] at aa;clear hd hx
   cases dj:(x.name.toList == s.toList)
   ·rw [Jrt dj] at aa;have HR:=Lib.hid aa;clear aa
    go_wp2_with fail
    go_roundw
    case rel=>exact⟨k+1,Ua,Up,by have:=HR.out;rw [<-this];congr 1,Jb⟩
    case measure=>simp [intOf];omega
   ·rw [Jtv dj] at aa;exact Ucv
  ·obtain rfl:k=l.length:=Ua;rw [List.drop_length,Xf] at aa;exact Ucv
end Go.Proofs.YtknfcamdfdfoeaaGreatDoor
