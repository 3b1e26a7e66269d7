/- Lemmas. -/
import Derived.Test.YtknfcamdfdfoeaaGreatDoorMac
import Derived.Test.YtknfcamdfdfoeaaGreatDoorZ20
import Derived.Test.YtknfcamdfdfoeaaGreatDoorZ16
import Derived.Test.YtknfcamdfdfoeaaGreatDoorZ22
import Derived.Test.YtknfcamdfdfoeaaGreatDoorZ07
import Derived.Test.YtknfcamdfdfoeaaGreatDoorZ18
import Derived.Test.YtknfcamdfdfoeaaGreatDoorZ04
import Derived.Deep.RegionLaw
import Derived.Test.YtknfcamdfdfoeaaGreatDoorZ02
import Derived.Test.YtknfcamdfdfoeaaGreatDoorRows
import Derived.Test.YtknfcamdfdfoeaaGreatDoorZ17
import Derived.Test.YtknfcamdfdfoeaaGreatDoorZ08
import Derived.WalkMore
set_option linter.unusedVariables false
set_option linter.unusedSimpArgs false
set_option maxRecDepth 100000
set_option maxHeartbeats 64000000
namespace Go.Proofs.YtknfcamdfdfoeaaGreatDoor
open Go.RowKit Go.Sort
def Zl (l:List (Int×ByteArray)):List Value:=l.flatMap fun c=>[.int .i64 c.1,.string c.2]
theorem Jip (l:List (Int×ByteArray)) (c:Int×ByteArray):Zl (l ++ [c])=Zl l ++ [.int .i64 c.1,.string c.2]:=by unfold Zl;simp
theorem Ex.arrsL_len {k:Int} {s:ByteArray} {c:Int×ByteArray} : ∀(r:List Ex),(∀x∈r,∀l c,l.length<=(x.arrs l c).length/\(x.arrs l c).length<=l.length+x.size)->∀(l:List (Int×ByteArray)) (i:Nat),l.length<=(Ex.arrsL l k s c i r).length/\(Ex.arrsL l k s c i r).length<=l.length+Ex.sizeL r
 | [],_,l,i=>by simp [Ex.arrsL,Ex.sizeL]
 | x :: r,h,l,i=>by
  have h1:=h x Ul l (K4 k s c i);have h2:=Ex.arrsL_len r (fun y hy=>h y F0) (x.arrs l (K4 k s c i)) (i+1) (k:=k) (s:=s) (c:=c);rw [Ex.arrsL,Ex.sizeL];omega
theorem Ex.arrs_len (e:Ex):∀l c,l.length<=(e.arrs l c).length/\(e.arrs l c).length<=l.length+e.size:=by
 induction e using Ex.ind with
 | h e ih=>
  intro l c;rw [Ex.arrs_eq,Ex.size_eq];have:=Ex.arrsL_len e.sub ih (if e.kind=7 then l ++ [c] else l) 0 (k:=e.kind) (s:=e.name) (c:=c)
  split at this <;> split <;> simp_all <;> omega
def Jz1 (w0:World) (x:Ex):Prop:=∀(A:Option Addr) (cap:Nat) (c:Int×ByteArray),Jt w0 x A cap->∀(W:World) (v:Value) (l:List (Int×ByteArray)),Below w0.heap.size w0 W->W.ownsRow w0.heap.size 55 2 v l.length (Zl l)->l.length+x.size<=1000000->
  Calls Tryz.prog 50 #[v,exV x A cap,kvC c] W fun r w'=>(∃v',r = .returned v'/\w'.ownsRow w0.heap.size 55 2 v' (x.arrs l c).length (Zl (x.arrs l c))/\(v'.ownBlock=v.ownBlock\/∀b,v'.ownBlock=some b->W.heap.size<=b))/\W.grownBy w' v.ownBlock
theorem Jqj (w0:World) (e:Ex):Jz1 w0 e:=by
 induction e using Ex.ind with
 | h e ih=>
 intro Ae ce c he W v l dZ ae cE;obtain⟨Av,cv,rfl,zD,nL⟩:=Jv ae;have ai:=he.len;unfold maxLen at ai nL;obtain⟨bI,aD⟩:=ai;have hU:∀b,(Value.slice Av l.length cv).ownBlock=some b->w0.heap.size<=b/\b<W.heap.size:=fun b hb=>ae.lt b hb;have tL:=dZ.size;have hszz:=Ex.size_eq e;have cY:=Ex.len_sizeL e.sub;obtain⟨R,hR⟩:∃R,R=e.arrs l c:=⟨_,rfl⟩;rw [<-hR];rw [Ex.arrs_eq] at hR;obtain⟨ck,cs⟩:=c;have sH:=fun W=>Jg4 e Ae ce ck cs W Ua;have kZ:∀k,W.heap.size<=k->some k≠(Value.slice Av l.length cv).ownBlock:=fun k hk he=>by have:=(hU k he.symm).2;omega
 have kS:=Lib.hid hU;clear hU;unfold exV kvC at *;dsimp only at *
 by_cases h7:e.kind=7
 ·have t7:(e.kind == 7)=true:=S9;rw [if_pos h7] at hR;have vi:=Lib.hid hR;clear hR h7
  go_enter Tryz.func50,Tryz.ntmps50
  go_wp2_with (first
   | (at_builtin;go_loud (refine Z2 rfl (.tmp 12) (.tmp 14) 122 rfl w0.heap.size 55 _ 2 24 Tryz.underlying122 Jes rfl Ua (.slice Av l.length cv) l.length (Zl l) (W.heap.size+1+1) 1 1 [.int .i64 ck,.string cs] rfl (Js (Js (Js ae))) rfl rfl (fun j u hj=>Udt) Uv Ua Ua Uj ?_;intro v2 w2 ao aG aI;obtain⟨A2,cv2,rfl,it,iu⟩:=Jv ao;have kI:=aG.size;simp at kI;have q0:w2.cell? ⟨W.heap.size,0,none⟩=some (.int .i64 e.kind):=Jr (aG.block _ Mw (kZ _ Dr)) Uq;have q1:w2.cell? ⟨W.heap.size,1,none⟩=some (.int .i32 e.n):=Jr (aG.block _ Mw (kZ _ Dr)) Uq;have q2:w2.cell? ⟨W.heap.size,2,none⟩=some (.string e.name):=Jr (aG.block _ Mw (kZ _ Dr)) Uq;have q3:w2.cell? ⟨W.heap.size,3,none⟩=some (.slice Ae e.sub.length ce):=Jr (aG.block _ Mw (kZ _ Dr)) Uq;have q4:w2.cell? ⟨W.heap.size+1,0,none⟩=some (.int .i64 ck):=Jr (aG.block _ Mw (kZ _ Dr)) Uq;have q5:w2.cell? ⟨W.heap.size+1,1,none⟩=some (.string cs):=Jr (aG.block _ Mw (kZ _ Dr)) Uq))
   | (go_at_call 56;go_loud (refine(sH _).mono ?_;rintro r w3 ⟨⟨dv,rfl,ay⟩,aM⟩;obtain⟨D,cd,rfl,js,gN⟩:=Jv ay)))
  refine Jo fun W1 bt=>?_;have eI:w2.heap.size<=W1.heap.size:=by rw [bt];exact aM.size
  have ba:W1.ownsRow w0.heap.size 55 2 (.slice A2 (l.length+1) cv2) (l ++ [(ck,cs)]).length (Zl (l ++ [(ck,cs)])):=by rw [bt,Jip,List.length_append];exact Jy ao aM
  have gU:(Value.slice A2 (l.length+1) cv2).ownBlock=(Value.slice Av l.length cv).ownBlock\/∀b,(Value.slice A2 (l.length+1) cv2).ownBlock=some b->W.heap.size<b:=by
   rcases aI with h|h
   ·exact .inl h
   ·exact .inr fun b hb=>Fy
  have zZ:=fun b hb=>(ao.lt b hb)
  have ez:W.grownBy W1 (Value.slice Av l.length cv).ownBlock:=by
   rw [bt];exact Kv (Kv (K0 (Jc (Jc (Jc (Below.refl _ _) _) _) _)) aG) (K0 aM)
  have ak:W1.cell? ⟨W.heap.size,3,none⟩=some (.slice Ae e.sub.length ce):=by rw [bt];exact Ja aM q3
  have jI:W1.ownsRow w2.heap.size 55 2 (.slice D e.sub.length cd) e.sub.length (Yx e.kind e.name (ck,cs) e.sub.length):=by rw [bt];exact ay
  have qY:∀b,(Value.slice A2 (l.length+1) cv2).ownBlock=some b->b<w2.heap.size:=fun b hb=>(zZ b hb).2;have hzW:W.heap.size<w2.heap.size:=Ua;clear bt zZ aG ao aM aI q0 q1 q2 q3 q4 q5 ay;obtain⟨V1,km⟩:∃V1,Value.slice A2 (l.length+1) cv2=V1:=⟨_,rfl⟩;rw [km] at ba gU qY;have ku:=Lib.hid km;clear km;have vj:(l ++ [(ck,cs)]).length+Ex.sizeL e.sub<=1000000:=Uj
  go_loopw [0,8] (fun u0 i wr=>∃(k:Nat) (V:Value) (l2:List (Int×ByteArray)),k<=e.sub.length/\i = .int .i64 k/\u0=V/\Hid (Ex.arrsL l2 e.kind e.name (ck,cs) k (e.sub.drop k)=R)/\wr.ownsRow w0.heap.size 55 2 V l2.length (Zl l2)/\Hid (V.ownBlock=V1.ownBlock\/∀b,V.ownBlock=some b->W1.heap.size<=b)/\Hid (W1.grownBy wr V1.ownBlock)/\l2.length+Ex.sizeL (e.sub.drop k)<=1000000) (fun _ i _=>e.sub.length-(intOf i).toNat)
  case atStart=>exact⟨0,V1,l ++ [(ck,cs)],Nat.zero_le _,rfl,ku.out,Lib.hid (by rw [List.drop_zero];exact vi.out.symm),ba,Lib.hid (.inl rfl),Lib.hid (K0 (Below.refl _ _)),by rw [List.drop_zero];exact vj⟩
  case round=>
   exact Ufa
 ·have t7:(e.kind == 7)=false:=S9;rw [if_neg h7] at hR;have vi:=Lib.hid hR;clear hR h7
  go_enter Tryz.func50,Tryz.ntmps50
  go_wp2_with (first
   | (go_at_call 56;go_loud (refine(sH _).mono ?_;rintro r w3 ⟨⟨dv,rfl,ay⟩,aM⟩;obtain⟨D,cd,rfl,js,gN⟩:=Jv ay)))
  refine Jo fun W1 bt=>?_;have ba:W1.ownsRow w0.heap.size 55 2 (.slice Av l.length cv) l.length (Zl l):=by rw [bt];exact Jy (Js (Js ae)) aM
  have gU:(Value.slice Av l.length cv).ownBlock=(Value.slice Av l.length cv).ownBlock\/∀b,(Value.slice Av l.length cv).ownBlock=some b->W.heap.size<b:= .inl rfl
  have ez:W.grownBy W1 (Value.slice Av l.length cv).ownBlock:=by
   rw [bt];exact Kv (K0 (Jc (Jc (Below.refl _ _) _) _)) (K0 aM)
  have ak:W1.cell? ⟨W.heap.size,3,none⟩=some (.slice Ae e.sub.length ce):=by rw [bt];exact Ja aM Uq
  obtain⟨w2,sh⟩:∃w2:World,w2=(W.alloc (.cells #[.int .i64 e.kind,.int .i32 e.n,.string e.name,.slice Ae e.sub.length ce] 51)).alloc (.cells #[.int .i64 ck,.string cs] 55):=⟨_,rfl⟩;have qb:w2.heap.size=W.heap.size+2:=by rw [sh];simp
  have jI:W1.ownsRow w2.heap.size 55 2 (.slice D e.sub.length cd) e.sub.length (Yx e.kind e.name (ck,cs) e.sub.length):=by rw [bt,qb];simpa using ay
  have eI:w2.heap.size<=W1.heap.size:=by rw [bt,qb];have:=aM.size;simpa using this
  have qY:∀b,(Value.slice Av l.length cv).ownBlock=some b->b<w2.heap.size:=fun b hb=>by have:=(kS.out b hb).2;omega
  have hzW:W.heap.size<w2.heap.size:=Ua;clear bt aM ay sh;have vj:l.length+Ex.sizeL e.sub<=1000000:=Ua;obtain⟨V1,km⟩:∃V1,Value.slice Av l.length cv=V1:=⟨_,rfl⟩;replace ba:W1.ownsRow w0.heap.size 55 2 V1 l.length (Zl l):=by rw [<-km];exact ba
  replace gU:V1.ownBlock=(Value.slice Av l.length cv).ownBlock\/∀b,V1.ownBlock=some b->W.heap.size<b:= .inl (by rw [km]);replace qY:∀b,V1.ownBlock=some b->b<w2.heap.size:=by rw [<-km];exact qY
  have ku:=Lib.hid km;clear km
  go_loopw [0,8] (fun u0 i wr=>∃(k:Nat) (V:Value) (l2:List (Int×ByteArray)),k<=e.sub.length/\i = .int .i64 k/\u0=V/\Hid (Ex.arrsL l2 e.kind e.name (ck,cs) k (e.sub.drop k)=R)/\wr.ownsRow w0.heap.size 55 2 V l2.length (Zl l2)/\Hid (V.ownBlock=V1.ownBlock\/∀b,V.ownBlock=some b->W1.heap.size<=b)/\Hid (W1.grownBy wr V1.ownBlock)/\l2.length+Ex.sizeL (e.sub.drop k)<=1000000) (fun _ i _=>e.sub.length-(intOf i).toNat)
  case atStart=>exact⟨0,V1,l,Nat.zero_le _,rfl,ku.out,Lib.hid (by rw [List.drop_zero];exact vi.out.symm),ba,Lib.hid (.inl rfl),Lib.hid (K0 (Below.refl _ _)),by rw [List.drop_zero];exact vj⟩
  case round=>
   exact Ufa
theorem Jx4 (n:Int) (hn:I64 n) (w:World):Calls Tryz.prog 83 #[.int .i64 n] w fun r w'=>r = .returned (.int .i32 (W32 n))/\Below w.heap.size w w':=by
 have hw:=Jxx n;dsimp only at hw
 have ac : -4294967296<n.tmod 4294967296:=by
  have:=Int.lt_tmod_of_pos n (show(0:Int)<4294967296 by omega);exact Ua
 have aq:n.tmod 4294967296<4294967296:=Int.tmod_lt_of_pos n Ua
 by_cases h0:n.tmod 4294967296<0
 ·rw [if_pos h0] at hw
  by_cases h1:n.tmod 4294967296+4294967296>=2147483648
  ·exact Ub6
  ·exact Ub5
 ·rw [if_neg h0] at hw
  by_cases h1:n.tmod 4294967296>=2147483648
  ·exact Ub6
  ·exact Ub5
theorem Jop (e:Ex) (A:Option Addr) (cap:Nat) (w:World) (he:Jt w e A cap) (aw:e.OK) (hl:e.kind=4->∃x r,e.sub=x :: r) :
  Calls Tryz.prog 51 #[exV e A cap] w fun r w'=>r = .returned (.int .i32 (Jai e))/\Below w.heap.size w w':=by
 have ai:=he.len;unfold maxLen at ai;obtain⟨bI,aD⟩:=ai;unfold exV
 by_cases hk:e.kind=4
 ·obtain⟨x,r,hs⟩:=hl hk;have hx:e.sub[0]?=some x:=by rw [hs];rfl
  have xm:I32 x.n:=by have:=Ex.OK_sub aw (x:=x) (by rw [hs];simp);cases x;exact this.2.1
  unfold I32 at xm;have am:0<e.sub.length:=by rw [hs];simp
  have hv:Jai e=W32 (-x.n):=by unfold Jai;rw [if_pos hk,hs]
  obtain⟨b,off,A',cap',rfl,c0,c1,c2,c3,bd⟩:=he.get hx;have tk:(e.kind == 4)=true:=Vw;simp only [Nat.zero_mul,Nat.add_zero] at c0 c1 c2 c3;have fk:b<w.heap.size:=block_lt_of_cell c0;have hlow:=fun W=>Jx4 (-x.n) Vs W;clear hk hs hl hx;have HV:=Lib.hid hv;clear hv
  go_enter Tryz.func51,Tryz.ntmps51
  go_wp2_with (first|(go_at_call 83;go_loud (refine(hlow _).mono ?_;rintro r w1 ⟨rfl,ac⟩)))
  exact Udf
 ·have hv:Jai e=e.n:=by unfold Jai;rw [if_neg hk]
  have tk:(e.kind == 4)=false:=Vw;clear hk hl;have HV:=Lib.hid hv;clear hv
  go_enter Tryz.func51,Tryz.ntmps51
  exact Uc9
theorem Joh:∀l:List (Int×ByteArray),(Zl l).length=l.length * 2
 | []=>rfl
 | x :: l=>by
  have:=Joh l;unfold Zl at this ⊢;exact Uc7
theorem Jl9:∀(l:List (Int×ByteArray)) (k:Nat) (x:Int×ByteArray),l[k]?=some x->(Zl l)[k * 2]?=some (.int .i64 x.1)/\(Zl l)[k * 2+1]?=some (.string x.2)
 | [],k,x,h=>Lt
 | y :: l,0,x,h=>by simp at h;subst h;exact⟨rfl,rfl⟩
 | y :: l,k+1,x,h=>by
  have:=Jl9 l k x Ve;have e:Zl (y :: l) = [.int .i64 y.1,.string y.2] ++ Zl l:=rfl;exact Ua2
def Jfm (w:World) (l:List (Int×ByteArray)) (A:Option Addr) (cap:Nat):Prop:=l.length<=cap/\cap<=maxLen/\X6 w A l.length 2 (Zl l)
theorem Jfm.later {w w':World} {l:List (Int×ByteArray)} {A:Option Addr} {cap:Nat} (h:Jfm w l A cap) (hb:Below w.heap.size w w'):Jfm w' l A cap:=⟨h.1,h.2.1,Jds h.2.2 hb⟩
theorem Jfm.of_own {w:World} {base:Nat} {e:TypeId} {l:List (Int×ByteArray)} {v:Value} (h:w.ownsRow base e 2 v l.length (Zl l)):∃A cap,v = .slice A l.length cap/\Jfm w l A cap:=by
 obtain⟨A,cap,rfl,h1,h2⟩:=Jv h;refine⟨A,cap,rfl,h1,h2,Joh l,fun hm=>?_⟩;exact Uct
theorem Jwc (d:Int×ByteArray) (l:List (Int×ByteArray)) (c:Int×ByteArray):inC (d :: l) c=(K9 d.1 d.2 c.1 c.2 || inC l c):=rfl
theorem Jq0 (l:List (Int×ByteArray)) (A:Option Addr) (cap:Nat) (ck:Int) (cs:ByteArray) (w:World) (hl:Jfm w l A cap) :
  Calls Tryz.prog 52 #[.slice A l.length cap,.agg #[.int .i64 ck,.string cs]] w fun r w'=>r = .returned (.bool (inC l (ck,cs)))/\Below w.heap.size w w':=by
 have bI:=hl.1;have aD:=hl.2.1;unfold maxLen at aD;have fM:=Jbt
 go_enter Tryz.func52,Tryz.ntmps52
 go_wp2_with fail
 refine Jo fun W0 ag=>?_;have ax:Below w.heap.size w W0:=Uo;have bD:w.heap.size<W0.heap.size:=La;have p0:W0.cell? ⟨w.heap.size,0,none⟩=some (.int .i64 ck):=Uc;have p1:W0.cell? ⟨w.heap.size,1,none⟩=some (.string cs):=Uc;clear ag
 go_loopw [5] (fun i wr=>∃(k:Nat),k<=l.length/\i = .int .i64 k/\Hid (inC (l.drop k) (ck,cs)=inC l (ck,cs))/\Below W0.heap.size W0 wr) (fun i _=>l.length-(intOf i).toNat)
 case atStart=>exact⟨0,Nat.zero_le _,rfl,Lib.hid (by rw [List.drop_zero]),Below.refl _ _⟩
 case round=>
  obtain⟨k,hk,rfl,aa,ab⟩:=hrel;have hc:=Jg ab;have bu:=ab.size
  by_cases am:k<l.length
  ·have hx:l[k]?=some l[k]:=List.getElem?_eq_getElem am;have hd:l.drop k=l[k] :: l.drop (k+1):=List.drop_eq_getElem_cons am;generalize l[k]=x at hx hd;obtain⟨xk,xs⟩:=x;obtain⟨b,off,rfl,cB⟩:=((hl.later ax).later ab).2.2.2 Ua;have aY:=Jl9 l k (xk,xs) hx;have d0:wr.cell? ⟨b,off+k * 2,none⟩=some (.int .i64 xk):=cB _ _ aY.1;have d1:wr.cell? ⟨b,off+k * 2+1,none⟩=some (.string xs):=cB _ _ aY.2;have hr:=aa.out;rw [hd,Jwc] at hr;dsimp only at hr;have dp:=fun w=>Zt xk xs ck cs w;have hwr:w.heap.size<wr.heap.size:=Ua;have aH:b<wr.heap.size:=block_lt_of_cell d0;clear cB aY hx hd aa
   cases et:K9 xk xs ck cs
   ·rw [et] at dp hr;rw [Bool.false_or] at hr;exact Ubq
   ·rw [et] at dp hr;rw [Bool.true_or] at hr;have HR:=Lib.hid hr;clear hr et
    go_wp2_with fail
    go_quiet (fail)
    go_wp2_with fail
    exact Udg
  ·obtain rfl:k=l.length:=Ua;have hr:=aa.out;rw [List.drop_length] at hr;have HR:=Lib.hid hr;clear hr aa
   go_wp2_with fail
   exact Udg
theorem Jon:(Tryz.prog.info? 51).map (fun i=>(i.zero,i.size,i.bytes))=some (some (.agg #[.int .i64 0,.int .i32 0,.string ⟨#[]⟩,.slice none 0 0]),4,56):=Ug
theorem Jov:∀l:List Ex,l.length<=Ex.sizeL l
 | []=>by simp [Ex.sizeL]
 | x :: l=>by
  have:=Jov l;have:=Ex.size_eq x;simp only [Ex.sizeL,List.length_cons];exact Ua
structure Jk2 (z:Nat) (W0 wr:World) (v:Value):Prop where
 cell:∀b o,b<z+3->¬(b=z+1+1/\o=3)->wr.cell? ⟨b,o,none⟩=W0.cell? ⟨b,o,none⟩
 froz:∀b o,b<z+3->wr.frozen? ⟨b,o,none⟩=W0.frozen? ⟨b,o,none⟩
 here:wr.cell? ⟨z+1+1,3,none⟩=some v
 size:z+3<=wr.heap.size
theorem Jk2.step {z:Nat} {W0 wr w2:World} {v v2:Value} (h:Jk2 z W0 wr v) (hs:∀k,k<z+3->w2.heap[k]?=wr.heap[k]?) (cE:wr.heap.size<=w2.heap.size):Jk2 z W0 (w2.setCell ⟨z+1+1,3,none⟩ v2) v2:=by
 have hh:w2.cell? ⟨z+1+1,3,none⟩=some v:=Jr (hs (z+1+1) Ua) h.here;refine⟨fun b o hb aS=>?_,fun b o hb=>?_,World.cell?_setCell_same _ _ _ hh,?_⟩
 ·rw [World.cell?_setCell_other _ _ _ _ Gm,World.cell?_of_block (w:=wr) (hs b hb)];exact h.cell b o hb aS
 ·rw [World.frozen?_setCell,World.frozen?_of_block (w:=wr) (hs b hb)];exact h.froz b o hb
 ·have:=h.size;exact Uj
def Jxn (x:Ex):Prop:=∀(A:Option Addr) (cap:Nat) (W:World),Jt W x A cap->
  Calls Tryz.prog 17 #[exV x A cap] W fun r w'=>(∃A' cap',r = .returned (exV x A' cap')/\Off W.heap.size none w' (fun V=>Jt V x A' cap'))/\Below W.heap.size W w'
def Jcz (B:Nat) (v:Value) (wr:World) (e:Ex) (ls:List (Option Addr×Nat)):Prop:=
 ∀(j:Nat) (y:Ex) (a:Option Addr×Nat),e.sub[j]?=some y->ls[j]?=some a->Off B v.ownBlock wr (fun V=>Jt V y a.1 a.2)
theorem Jcz.step {B:Nat} {v v2:Value} {wr w1 w2 w3:World} {e y:Ex} {ls:List (Option Addr×Nat)} {k:Nat} {a:Option Addr×Nat} (h:Jcz B v wr e ls) (hk:ls.length=k) (hy:e.sub[k]?=some y)
  (hB:B<=wr.heap.size) (ac:Below wr.heap.size wr w1) (jv:Off wr.heap.size none w1 (fun V=>Jt V y a.1 a.2)) (aq:Below w1.heap.size w1 w2) (hg:w2.grownBy w3 v.ownBlock)
  (hv:∀b,v.ownBlock=some b->b<wr.heap.size) (aI:v2.ownBlock=v.ownBlock\/∀b,v2.ownBlock=some b->w2.heap.size<=b):Jcz B v2 w3 e (ls ++ [a]):=by
 have z1:=ac.size;have z2:=aq.size;have z3:=hg.size;intro j x c hx hc
 rcases Nat.lt_or_ge j ls.length with hj|hj
 ·rw [List.getElem?_append_left hj] at hc;refine(h j x c hx hc).grow (fun b _ hb aS=>?_) Ua ?_
  ·exact(hg.block b Ua aS).trans ((aq.block b Ua).trans (ac.block b hb))
  ·rcases aI with aI|aI
   ·exact .inl aI
   ·exact .inr fun b hb=>by have:=aI b hb;omega
 ·obtain rfl:j=ls.length:=by
   have:=(List.getElem?_eq_some_iff.1 hc).1;simp at this;omega
  rw [List.getElem?_append_right (Nat.le_refl _)] at hc;simp at hc;subst hc;obtain rfl:y=x:=by rw [<-hk,hx] at hy;injection hy with hy;exact hy.symm
  refine jv.fresh hB (fun b hb am=>?_) Ua fun b hb=>?_
  ·refine(hg.block b Ua ?_).trans (aq.block b am);intro he;have:=hv b he.symm;exact Ua
  ·rcases aI with aI|aI
   ·rw [aI] at hb;exact .inl (hv b hb)
   ·exact .inr (by have:=aI b hb;omega)
theorem Jcz.set {B z:Nat} {v:Value} {w:World} {e:Ex} {ls:List (Option Addr×Nat)} (h:Jcz B v w e ls) (hz:z<B) (o:Nat) (u:Value):Jcz B v (w.setCell ⟨z,o,none⟩ u) e ls:=
 fun j x c hx hc=>(h j x c hx hc).grow (fun b hb _ _=>heap_setCell_other w ⟨z,o,none⟩ b u (by show b≠z;omega)) Ul (.inl rfl)
theorem Jpi (e:Ex):e.size<=1000000->Jxn e:=by
 induction e using Ex.ind with
 | h e ih0=>
 intro bD A cap w he
 have ih:∀x∈e.sub,Jxn x:=fun x hx=>ih0 x hx (by
  obtain⟨i,hi⟩:=List.getElem?_of_mem hx;have:=Ex.size_sub hi;omega)
 have hn:e.sub.length<=1000000:=by
  have:=Jov e.sub;have:=Ex.size_eq e;exact Ua
 clear ih0 bD;have ai:=he.len;unfold maxLen at ai;obtain⟨bI,aD⟩:=ai;unfold exV
 go_enter Tryz.func17,Tryz.ntmps17
 go_wp2_with fail
 refine Jo fun W0 ag=>?_;have ax:Below w.heap.size w W0:=Uo;have bD:W0.heap.size=w.heap.size+3:=La;have p3:W0.cell? ⟨w.heap.size,3,none⟩=some (.slice A e.sub.length cap):=Uc;have r0:W0.cell? ⟨w.heap.size+1,0,none⟩=some (.int .i64 0):=Uc;have r1:W0.cell? ⟨w.heap.size+1,1,none⟩=some (.int .i32 0):=Uc;have r2:W0.cell? ⟨w.heap.size+1,2,none⟩=some (.string ⟨#[]⟩):=Uc;have r3:W0.cell? ⟨w.heap.size+1,3,none⟩=some (.slice none 0 0):=Uc;have x0:W0.cell? ⟨w.heap.size+1+1,0,none⟩=some (.int .i64 e.kind):=Uc;have x1:W0.cell? ⟨w.heap.size+1+1,1,none⟩=some (.int .i32 e.n):=Uc;have x2:W0.cell? ⟨w.heap.size+1+1,2,none⟩=some (.string e.name):=Uc;have x3:W0.cell? ⟨w.heap.size+1+1,3,none⟩=some (.slice none 0 0):=Uc;have f0:W0.frozen? ⟨w.heap.size+1,0,none⟩=false:=Uc;have f1:W0.frozen? ⟨w.heap.size+1,1,none⟩=false:=Uc;have f2:W0.frozen? ⟨w.heap.size+1,2,none⟩=false:=Uc;have f3:W0.frozen? ⟨w.heap.size+1,3,none⟩=false:=Uc;have y3:W0.frozen? ⟨w.heap.size+1+1,3,none⟩=false:=Uc;clear ag
 go_loopw [4] (fun i wr=>∃(k:Nat) (v:Value) (ls:List (Option Addr×Nat)),k<=e.sub.length/\i = .int .i64 k/\ls.length=k/\Jk2 w.heap.size W0 wr v/\wr.ownsRow (w.heap.size+3) 51 4 v k (Ya (e.sub.take k) ls)/\Jcz (w.heap.size+3) v wr e ls/\Below w.heap.size w wr) (fun i _=>e.sub.length-(intOf i).toNat)
 case atStart=>
  refine⟨0,_,[],Nat.zero_le _,rfl,rfl,⟨fun _ _ _ _=>rfl,fun _ _ _=>rfl,x3,Ua⟩,World.ownsRow_nil _ _ _ _,?_,ax⟩;intro j y a _ h;exact Lt
 case round=>
  obtain⟨k,v,ls,hk,rfl,kq,eg,ae,fb,ab⟩:=hrel;have bu:=eg.size;have q3:wr.cell? ⟨w.heap.size,3,none⟩=some (.slice A e.sub.length cap):=(eg.cell _ _ Ua Ua).trans p3;have z3:wr.cell? ⟨w.heap.size+1+1,3,none⟩=some v:=eg.here;have zf:wr.frozen? ⟨w.heap.size+1+1,3,none⟩=false:=(eg.froz _ _ Ua).trans y3;have eV:w.heap.size<wr.heap.size:=Ua;have fF:w.heap.size+1<wr.heap.size:=Ua;have fa:w.heap.size+1+1<wr.heap.size:=Ua;have od:=Lib.hid kq;clear kq
  by_cases am:k<e.sub.length
  ·have hx:e.sub[k]?=some e.sub[k]:=List.getElem?_eq_getElem am;have aj:e.sub[k]∈e.sub:=List.getElem_mem am;have aP:e.sub.take (k+1)=e.sub.take k ++ [e.sub[k]]:=U6;generalize e.sub[k]=x at hx aj aP;obtain⟨b,off,A',cap',rfl,c0,c1,c2,c3,hs⟩:=(he.later ab).get hx;have aC:b<wr.heap.size:=block_lt_of_cell c0;have tz:=fun W h=>ih x aj A' cap' W h;unfold exV at tz;have HX:=Lib.hid hx;clear hx;have eZ:=Lib.hid aP;clear aP
   go_wp2_with fail
   go_region_law (first
    | (refine Ju6 rfl (.tmp 15) (.tmp 22) 49 rfl (w.heap.size+3) 51 _ 4 56 Tryz.underlying49 Jon rfl Ua v k (Ya (e.sub.take k) ls) w1.heap.size 1 1 (exC x (A1,cap1)) rfl Udk rfl rfl (fun j u hj=>by rw [Kw];simpa [exC] using hj) (by simp [exC,Value.oneCell']) Ua Ua Uj ?_;intro v2 w2 ao aG aI;go_loud (obtain⟨B2,cb2,rfl,it,iu⟩:=Jv ao;have gF:=Jii ae Ua Jb aG;have k3:w2.cell? ⟨w.heap.size+1+1,3,none⟩=some v:=Jr (gF (w.heap.size+1+1) Ua) z3;have kf:w2.frozen? ⟨w.heap.size+1+1,3,none⟩=false:=((World.frozen?_of_block (a:=⟨w.heap.size+1+1,3,none⟩) (gF (w.heap.size+1+1) Ua)).trans zf);have KEEP:=Lib.hid gF;clear gF))
    | (go_simp;go_wp2_with (go_at_call 17;refine(tz _ (hs.later Jb)).mono ?_;rintro r w1 ⟨⟨A1,cap1,rfl,jv⟩,ac⟩;have ak:=Jg ac;have db:=Jf ac;have af:=ac.size;(try simp at af);have jl:w.heap.size<w1.heap.size:=Ua;have bV:w.heap.size+1<w1.heap.size:=Ua;have gq:w.heap.size+1+1<w1.heap.size:=Ua;have z31:=Ja ac (p:=⟨w.heap.size+1+1,3,none⟩) (v:=v) z3)))
   all_goals
    go_wp2_with fail
    go_roundw
    case rel=>
     have aq:Below wr.heap.size wr w1:=Jd (Jh (Below.refl _ _)) ac;refine⟨k+1,_,ls ++ [(A1,cap1)],Ua,Up,by have:=od.out;simp [this],(eg.step KEEP.out ?_),?_,?_,?_⟩
     ·have:=aG.size;simp at this;omega
     ·rw [eZ.out,Jih _ _ _ _ (by have:=od.out;simp;omega)];exact Jbd ao Ua _ _
     ·refine Jcz.set ?_ Ua _ _;exact fb.step od.out HX.out Ua aq jv (Jc (Below.refl _ _) _) aG (fun b hb=>(ae.lt b hb).2) aI
     ·exact(J2 (Jd ab (Jc aq _)) aG (fun b hb=>Ft) Uj).setCell (by show w.heap.size<=w.heap.size+1+1;omega) _
    case measure=>simp [intOf];omega
  ·obtain rfl:k=e.sub.length:=Ua;rw [List.take_length] at ae;obtain⟨A2,cap2,rfl,iE⟩:=Jt.of_own ae od.out fb;have r0':wr.cell? ⟨w.heap.size+1,0,none⟩=some (.int .i64 0):=(eg.cell _ _ Ua Ua).trans r0;have r1':wr.cell? ⟨w.heap.size+1,1,none⟩=some (.int .i32 0):=(eg.cell _ _ Ua Ua).trans r1;have r2':wr.cell? ⟨w.heap.size+1,2,none⟩=some (.string ⟨#[]⟩):=(eg.cell _ _ Ua Ua).trans r2;have r3':wr.cell? ⟨w.heap.size+1,3,none⟩=some (.slice none 0 0):=(eg.cell _ _ Ua Ua).trans r3;have x0':wr.cell? ⟨w.heap.size+1+1,0,none⟩=some (.int .i64 e.kind):=(eg.cell _ _ Ua Ua).trans x0;have x1':wr.cell? ⟨w.heap.size+1+1,1,none⟩=some (.int .i32 e.n):=(eg.cell _ _ Ua Ua).trans x1;have x2':wr.cell? ⟨w.heap.size+1+1,2,none⟩=some (.string e.name):=(eg.cell _ _ Ua Ua).trans x2;have f0':wr.frozen? ⟨w.heap.size+1,0,none⟩=false:=(eg.froz _ _ Ua).trans f0;have f1':wr.frozen? ⟨w.heap.size+1,1,none⟩=false:=(eg.froz _ _ Ua).trans f1;have f2':wr.frozen? ⟨w.heap.size+1,2,none⟩=false:=(eg.froz _ _ Ua).trans f2;have f3':wr.frozen? ⟨w.heap.size+1,3,none⟩=false:=(eg.froz _ _ Ua).trans f3;have pY:=Lib.hid iE;clear iE;clear r0 r1 r2 r3 x0 x1 x2 x3 f0 f1 f2 f3 p3
   go_wp2_with fail
   refine bodyPost_ret (v:= .agg #[.int .i64 e.kind,.int .i32 e.n,.string e.name,.slice A2 e.sub.length cap2]) (by simp [results,Tryz.results17,go_sem, *]) rfl ⟨⟨A2,cap2,rfl,?_⟩,?_⟩
   ·refine(pY.out.grow (g':=none) (fun b ac hb _=>?_) Ul (.inl rfl)).less Ua;rw [heap_setCell_other _ _ _ _ Vn,heap_setCell_other _ _ _ _ Vn,heap_setCell_other _ _ _ _ Vn,heap_setCell_other _ _ _ _ Vn]
   ·exact(((ab.setCell Vv _).setCell Vv _).setCell Vv _).setCell Vv _
theorem Jls {α:Type} (l:List α):l = []\/∃(a:List α) (b:α),l=a ++ [b]:=by
 rcases List.eq_nil_or_concat l with h|⟨a,b,h⟩
 ·exact .inl h
 ·exact .inr ⟨a,b,by rw [h,List.concat_eq_append]⟩
theorem Jw8 {w:World} {base size n m cap:Nat} {e:TypeId} {D:Option Addr} {xs ys:List Value} (h:w.ownsRow base e size (.slice D (n+m) cap) (n+m) (xs ++ ys)) (hx:xs.length=n * size):w.ownsRow base e size (.slice D n cap) n xs:=by
 refine⟨hx,?_⟩
 rcases h.2 with ⟨hv,h0⟩|⟨g,cap',cur,hv,hg,hh,h1,h2,h3,h4⟩
 ·injection hv with e1 e2 e3;subst e1 e3;obtain rfl:n=0:=Ua;exact .inl ⟨rfl,rfl⟩
 ·injection hv with e1 e2 e3;subst e1 e3;refine .inr ⟨g,cap,cur,rfl,hg,hh,Ua,h2,h3,?_⟩;have:(cur.toList.take ((n+m) * size)).take (n * size)=xs:=by rw [h4,List.take_append_of_le_length Ua,<-hx,List.take_length]
  rwa [List.take_take,Nat.min_eq_left (Nat.mul_le_mul_right _ Ua)] at this
theorem Jj7:∀(l:List Ex) (ls:List (Option Addr×Nat)),ls.length=l.length->(Ya l ls).length=l.length * 4
 | [],[],_=>rfl
 | y :: l,b :: ls,h=>by
  have:=Jj7 l ls Ve;rw [Ya,List.length_append,this];simp [exC];omega
 | [],b :: ls,h=>Lt
 | y :: l,[],h=>Lt
theorem Jot:∀(l m:List Ex) (ls ms:List (Option Addr×Nat)),ls.length=l.length->Ya (l ++ m) (ls ++ ms)=Ya l ls ++ Ya m ms
 | [],m,[],ms,_=>by simp [Ya]
 | y :: l,m,b :: ls,ms,h=>by
  simp only [List.cons_append,Ya,List.append_assoc];rw [Jot l m ls ms Ve]
 | [],m,b :: ls,ms,h=>Lt
 | y :: l,m,[],ms,h=>Lt
theorem Xv.lies {w:World} {b:Nat} : ∀(l:List Ex) (off:Nat),Xv w b l off->∃ls:List (Option Addr×Nat),ls.length=l.length/\(∀j u,(Ya l ls)[j]?=some u->w.cell? ⟨b,off+j,none⟩=some u)/\∀(j:Nat) (x:Ex) (a:Option Addr×Nat),l[j]?=some x->ls[j]?=some a->Jt w x a.1 a.2
 | [],off,_=>⟨[],rfl,by simp [Ya],Ul⟩
 | y :: l,off,h=>by
  rw [Xv] at h;obtain⟨⟨A,cap,c0,c1,c2,c3,hs⟩,hr⟩:=h;obtain⟨ls,h1,h2,h3⟩:=Xv.lies l (off+4) hr;refine⟨(A,cap) :: ls,by simp [h1],fun j u hj=>?_,fun j x a hx ha=>?_⟩
  ·rw [Ya] at hj
   match j with
   | 0=>
     obtain rfl:Value.int .i64 y.kind=u:=Gk;exact c0
   | 1=>
     obtain rfl:Value.int .i32 y.n=u:=Gk;exact c1
   | 2=>
     obtain rfl:Value.string y.name=u:=Gk;exact c2
   | 3=>
     obtain rfl:Value.slice A y.sub.length cap=u:=Gk;exact c3
   | j+4=>
    have:=h2 j u Gk
    rwa [show off+4+j=off+(j+4) from by omega] at this
  ·cases j with
   | zero=>
    simp at hx ha;subst hx ha;exact hs
   | succ j=>exact h3 j x a (by simpa using hx) (by simpa using ha)
theorem Jt.lies {w:World} {e:Ex} {A:Option Addr} {cap:Nat} (h:Jt w e A cap):∃ls:List (Option Addr×Nat),ls.length=e.sub.length/\X6 w A e.sub.length 4 (Ya e.sub ls)/\∀(j:Nat) (x:Ex) (a:Option Addr×Nat),e.sub[j]?=some x->ls[j]?=some a->Jt w x a.1 a.2:=by
 rw [Jao] at h
 rcases Nat.eq_zero_or_pos e.sub.length with h0|h0
 ·have hn:e.sub = []:=List.eq_nil_of_length_eq_zero h0;rw [hn];exact⟨[],rfl,⟨rfl,fun h=>absurd h Ul⟩,Ul⟩
 ·obtain⟨b,off,rfl,hr⟩:=h.2.2 h0;obtain⟨ls,h1,h2,h3⟩:=Xv.lies _ _ hr;exact⟨ls,h1,⟨Jj7 _ _ h1,fun _=>⟨b,off,rfl,h2⟩⟩,h3⟩
def Jca (w0 w:World) (base:Nat) (t:TypeId) (st:List Ex) (D:Option Addr) (dc:Nat):Prop:=
 ∃ls:List (Option Addr×Nat),ls.length=st.length/\(∀(j:Nat) (x:Ex) (a:Option Addr×Nat),st[j]?=some x->ls[j]?=some a->Jt w0 x a.1 a.2)/\w.ownsRow base t 4 (.slice D st.length dc) st.length (Ya st ls)
theorem Jca.pop {w0 w:World} {base:Nat} {t:TypeId} {st:List Ex} {x:Ex} {D:Option Addr} {dc:Nat} (h:Jca w0 w base t (st ++ [x]) D dc) :
  ∃b A cap,D=some ⟨b,0,none⟩/\base<=b/\b<w.heap.size/\st.length+1<=dc/\dc<=maxLen/\Jt w0 x A cap/\w.cell? ⟨b,st.length * 4,none⟩=some (.int .i64 x.kind)/\w.cell? ⟨b,st.length * 4+1,none⟩=some (.int .i32 x.n)/\
   w.cell? ⟨b,st.length * 4+2,none⟩=some (.string x.name)/\w.cell? ⟨b,st.length * 4+3,none⟩=some (.slice A x.sub.length cap)/\Jca w0 w base t st D dc:=by
 obtain⟨ls,hl,hs,ae⟩:=h
 rcases Jls ls with rfl|⟨ls',a,rfl⟩
 ·simp at hl
 ·have qM:ls'.length=st.length:=by simpa using hl
  rw [Jih st ls' x a qM,List.length_append] at ae;obtain⟨g,cap,hv,hg,am,h1,h2,hc⟩:=Kc ae Ul;injection hv with e1 e2 e3;subst e1 e3;have ai:=Jj7 st ls' qM;have ev:∀i u,(exC x a)[i]?=some u->w.cell? ⟨g,st.length * 4+i,none⟩=some u:=fun i u hu=>hc _ _ (by rw [List.getElem?_append_right Ua,ai,show st.length * 4+i-st.length * 4=i from by omega];exact hu);refine⟨g,a.1,a.2,rfl,hg,am,Lw,h2,hs st.length x a Ul (by rw [<-qM];simp),ev 0 _ rfl,ev 1 _ rfl,ev 2 _ rfl,ev 3 _ rfl,ls',qM,fun j y b hy hb=>?_,Jw8 ae ai⟩;have hj:j<st.length:=(List.getElem?_eq_some_iff.1 hy).1;exact hs j y b (by rw [List.getElem?_append_left hj];exact hy) (by rw [List.getElem?_append_left Ua];exact hb)
theorem Jca.push {w0 w:World} {base:Nat} {t:TypeId} {st sub:List Ex} {ls ms:List (Option Addr×Nat)} {D:Option Addr} {dc:Nat} (hl:ls.length=st.length) (hs:∀(j:Nat) (x:Ex) (a:Option Addr×Nat),st[j]?=some x->ls[j]?=some a->Jt w0 x a.1 a.2)
  (hm:ms.length=sub.length) (bd:∀(j:Nat) (x:Ex) (a:Option Addr×Nat),sub[j]?=some x->ms[j]?=some a->Jt w0 x a.1 a.2) (ae:w.ownsRow base t 4 (.slice D (st.length+sub.length) dc) (st.length+sub.length) (Ya st ls ++ Ya sub ms)):Jca w0 w base t (st ++ sub) D dc:=by
 refine⟨ls ++ ms,by simp [hl,hm],fun j x a hx ha=>?_,by rw [Jot _ _ _ _ hl,List.length_append];exact ae⟩
 rcases Nat.lt_or_ge j st.length with hj|hj
 ·rw [List.getElem?_append_left hj] at hx;rw [List.getElem?_append_left Ua] at ha;exact hs j x a hx ha
 ·rw [List.getElem?_append_right hj] at hx;rw [List.getElem?_append_right Ua,hl] at ha;exact bd _ x a hx ha
theorem X6.moved {w w':World} {A:Option Addr} {m size:Nat} {news:List Value} (h:X6 w A m size news) (hb:Below w.heap.size w w'):X6 w' A m size news:=
 ⟨h.1,fun hm=>by
  obtain⟨b,off,e,hc⟩:=h.2 hm;exact⟨b,off,e,fun j u hj=>Ja hb (hc j u hj)⟩⟩
theorem Jox:∀(l:List Ex) (ls:List (Option Addr×Nat)),∀u∈Ya l ls,u.oneCell'=true
 | [],_,u,h=>by simp [Ya] at h
 | y :: l,[],u,h=>by simp [Ya] at h
 | y :: l,b :: ls,u,h=>by
  rw [Ya] at h
  rcases List.mem_append.1 h with h1|h1
  ·simp only [exC,List.mem_cons,List.not_mem_nil,or_false] at h1
   rcases h1 with rfl|rfl|rfl|rfl <;> rfl
  ·exact Jox l ls u h1
theorem Je8 {e:Ex} (h:e.formed=true) (hk:e.kind=7):e.sub.length=2:=by
 exact Ucp
theorem Jgc (e:Ex) (A:Option Addr) (cap:Nat) (B n:Nat) (f:ByteArray->Option Int) (w:World) (he:Jt w e A cap) (hf:e.formed=true) (aw:e.OK) (hz:e.size<=1000000) (hm:Jz Tryz.prog 9 3 w B n f) :
  Calls Tryz.prog 108 #[.map (some B),exV e A cap] w fun r w'=>r = .returned (.bool (e.reach (onM f)))/\Below w.heap.size w w':=by
 obtain⟨R,hR⟩:∃R,R=e.reach (onM f):=⟨_,rfl⟩;rw [<-hR];have vi:=Lib.hid (by rw [hR];simp [Ex.reachL]:Ex.reachL (onM f) [e]=R);clear hR;unfold exV
 go_enter Tryz.func108,Tryz.ntmps108
 go_wp2_with fail
 go_step3
 go_wp2_with fail
 go_step3
 go_wp2_with fail
 refine Jo fun W0 ag=>?_;have ax:Below w.heap.size w W0:=Uo
 have jx:Jca w W0 w.heap.size 51 [e] (some ⟨w.heap.size+1,0,none⟩) 1:=by
  refine⟨[(A,cap)],rfl,fun j x a hx ha=>?_,?_⟩
  ·match j with
   | 0=>
     obtain rfl:e=x:=by simpa using hx
     obtain rfl:(A,cap)=a:=by simpa using ha
     exact he
   | j+1=>simp at hx
  ·rw [ag];have:=World.ownsRow_lit (base:=w.heap.size) (e:=51) (size:=4) (w.alloc (.cells #[.int .i64 e.kind,.int .i32 e.n,.string e.name,.slice A e.sub.length cap] 51)) #[.int .i64 e.kind,.int .i32 e.n,.string e.name,.slice A e.sub.length cap] 1 Ul U2 rfl;simpa [Ya,exC] using this
 have zb:∀x∈[e],x.formed=true/\x.OK:=fun x hx=>by
  obtain rfl:x=e:=by simpa using hx
  exact⟨hf,aw⟩
 have HF0:=Lib.hid zb;clear ag he hf aw zb
 go_loopg [5,6] (e.size) (fun gk todo met wr=>∃(st:List Ex) (m:Nat) (D:Option Addr) (dc:Nat),todo = .slice D m dc/\met = .bool false/\Hid (m=st.length)/\Ex.sizeL st<=gk/\gk<=1000000/\Hid (Ex.reachL (onM f) st=R)/\Hid (∀x∈st,x.formed=true/\x.OK)/\Hid (Jca w wr w.heap.size 51 st D dc)/\Below w.heap.size w wr)
 case atStart=>exact⟨[e],1,_,1,rfl,rfl,Lib.hid rfl,by simp [Ex.sizeL],hz,vi,HF0,Lib.hid jx,ax⟩
 case round=>
  obtain⟨st,m,D,dc,rfl,rfl,tX,hgs,hgk,aa,lz,cP,ab⟩:=hrel;have bu:=ab.size;have ej:=hm.bel ab
  rcases Jls st with rfl|⟨st,x,rfl⟩
  ·have eU:m=0:=by simpa using tX.out
   subst eU;have HR:=Lib.hid (show false=R from aa.out);clear aa tX lz cP
   go_wp2_with fail
   (try rw [Exit.noGoto_ret])
   exact Udg
  ·have eU:m=st.length+1:=by simpa using tX.out
   subst eU;obtain⟨b,A',cap',rfl,ac,aq,js,gN,dT,c0,c1,c2,c3,hst'⟩:=cP.out.pop;obtain⟨gW,jz⟩:=lz.out x Ul;have hr:=aa.out;rw [Ex.reachL_app,show Ex.reachL (onM f) [x]=x.reach (onM f) by simp [Ex.reachL],Ex.reach_eq] at hr
   have bC:Ex.sizeL st+(Ex.sizeL x.sub+1)<=gk:=by
    rw [Ex.sizeL_app] at hgs;simpa [Ex.sizeL,Ex.size_eq] using hgs
   have hfo':∀y∈st,y.formed=true/\y.OK:=fun y hy=>lz.out y F0;have qU:x.name.size<=maxLen:=by cases x;simp only [Ex.OK] at jz;exact jz.2.2.1
   have hstl:=Ex.len_sizeL st;have sd:Ex.OKL x.sub:=by cases x;simp only [Ex.OK] at jz;exact jz.2.2.2
   have pM:st.length<=dc:=Ua;have hdc0:¬dc=0:=Ua;unfold maxLen at gN;obtain⟨ls,hl,kq,ae⟩:=hst';have HFO:=Lib.hid hfo';have od:=Lib.hid kq;have wJ:=Lib.hid hl;clear aa tX lz cP hfo' hgs kq hl
   by_cases h0:0<(f x.name).getD 0
   ·rw [show onM f x.name=true by unfold onM;simpa using h0,Bool.true_or,Bool.or_true] at hr;have HR:=Lib.hid hr;clear hr
    go_wp2_with (first|(at_lookup;go_loud (refine Qb rfl (.tmp 29) (.tmp 31) 179 rfl Tryz.underlying9 Tryz.underlying179 Tryz.underlying3 (Kj _) B n f x.name rfl (ej.bel Jb) rfl qU ?_)))
    (try rw [Exit.noGoto_ret])
    exact Udg
   ·rw [show onM f x.name=false by unfold onM;simpa using h0,Bool.false_or] at hr
    by_cases hk:x.kind=7
    ·have ai:=Je8 gW hk
     obtain⟨y,z,qZ⟩:∃y z,x.sub = [y,z]:=by
      match h:x.sub,ai with
      | [y,z],_=>exact⟨y,z,rfl⟩
     rw [if_pos hk,qZ] at hr;have rU:y.formed=true:=Q9 gW y (by rw [qZ];simp);have hyok:y.OK:=Ex.OKL_mem sd y (by rw [qZ];simp);have hysz:y.size<=Ex.sizeL x.sub:=by rw [qZ];simp [Ex.sizeL]
     obtain⟨b2,o2,A2,cap2,rfl,e0,e1,e2,e3,oN⟩:=dT.get (by rw [qZ];rfl:x.sub[0]?=some y);rw [Nat.zero_mul,Nat.add_zero] at e0 e1 e2 e3;have e0':=Ja ab e0;have e1':=Ja ab e1;have e2':=Ja ab e2;have e3':=Ja ab e3;have hb2w:b2<wr.heap.size:=block_lt_of_cell e0';have tk:(x.kind == 7)=true:=Vw;have eb:0<x.sub.length:=Ua;have HR:=Lib.hid hr;have HY:=Lib.hid qZ;clear hr hk qZ ai e0 e1 e2 e3
     go_wp2_with (first|(at_lookup;go_loud (refine Qb rfl (.tmp 29) (.tmp 31) 179 rfl Tryz.underlying9 Tryz.underlying179 Tryz.underlying3 (Kj _) B n f x.name rfl (ej.bel Jb) rfl qU ?_))|(at_builtin;go_loud (refine K6 rfl (.tmp 38) (.tmp 43) 49 rfl w.heap.size 51 _ 4 56 Tryz.underlying49 Jon rfl Ua (.slice (some ⟨b,0,none⟩) st.length dc) st.length (Ya st ls) _ 1 1 (exC y (A2,cap2)) rfl (Js (Js ae)) rfl ⟨rfl,fun _=>⟨_,_,rfl,fun j u hj=>by rw [Nat.zero_add];exact(Qo Ul).trans Gk⟩⟩ (by simp [exC,Value.oneCell']) Ua Ua Uj ?_;intro v9 w9 dL nh;have hz9:=nh.size;obtain⟨A9,c9,rfl,it,iu⟩:=Jv dL)))
     go_roundg (gk-1)
     case measure=>omega
     case rel=>
      refine⟨st ++ [y],st.length+1,A9,c9,by first|rfl|simp,rfl,Lib.hid Ul,?_,Ua,?_,?_,?_,Jb⟩
      ·rw [Ex.sizeL_app];simp only [Ex.sizeL];exact Ua
      ·refine Lib.hid ?_;rw [Ex.reachL_app,<-HR.out];simp [Ex.reachL,Ex.reachF]
      ·refine Lib.hid fun u hu=>?_
       rcases List.mem_append.1 hu with h1|h1
       ·exact HFO.out u h1
       ·obtain rfl:u=y:=Lw;exact⟨rU,hyok⟩
      ·refine Lib.hid (Jca.push (sub:=[y]) (ms:=[(A2,cap2)]) wJ.out od.out rfl (fun j u a hu ha=>?_) (by simpa [Ya] using dL))
       match j with
       | 0=>
         obtain rfl:y=u:=by simpa using hu
         obtain rfl:(A2,cap2)=a:=by simpa using ha
         exact oN
       | j+1=>simp at hu
    ·rw [if_neg hk] at hr;have tk:(x.kind == 7)=false:=Vw;obtain⟨ms,iw,cI,kV⟩:=dT.lies;have HR:=Lib.hid hr;have uO:=Lib.hid iw;have HM3:=Lib.hid kV;have kj:=Lib.hid cI;have lB:=Ex.len_sizeL x.sub;clear hr hk iw cI kV
     go_wp2_with (first|(at_lookup;go_loud (refine Qb rfl (.tmp 29) (.tmp 31) 179 rfl Tryz.underlying9 Tryz.underlying179 Tryz.underlying3 (Kj _) B n f x.name rfl (ej.bel Jb) rfl qU ?_))|(at_builtin;go_loud (refine K6 rfl (.tmp 24) (.tmp 26) 49 rfl w.heap.size 51 _ 4 56 Tryz.underlying49 Jon rfl Ua (.slice (some ⟨b,0,none⟩) st.length dc) st.length (Ya st ls) A' x.sub.length cap' (Ya x.sub ms) rfl (Js ae) rfl (kj.out.moved Jb) (Jox _ _) Ua Ua Uj ?_;intro v9 w9 dL nh;have hz9:=nh.size;obtain⟨A9,c9,rfl,it,iu⟩:=Jv dL)))
     go_roundg (gk-1)
     case measure=>omega
     case rel=>
      refine⟨st ++ x.sub,st.length+x.sub.length,A9,c9,by first|rfl|simp,rfl,Lib.hid Ul,?_,Ua,?_,?_,?_,Jb⟩
      ·rw [Ex.sizeL_app];exact Ua
      ·refine Lib.hid ?_;rw [Ex.reachL_app,<-HR.out]
      ·refine Lib.hid fun u hu=>?_
       rcases List.mem_append.1 hu with h1|h1
       ·exact HFO.out u h1
       ·exact⟨Q9 gW u h1,Ex.OKL_mem sd u h1⟩
      ·exact Lib.hid (Jca.push wJ.out od.out uO.out HM3.out dL)
end Go.Proofs.YtknfcamdfdfoeaaGreatDoor
