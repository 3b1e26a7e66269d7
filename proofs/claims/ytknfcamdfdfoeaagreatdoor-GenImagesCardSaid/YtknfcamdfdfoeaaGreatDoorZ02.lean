/- Lemmas. -/
import Derived.Test.YtknfcamdfdfoeaaGreatDoorMac
import Derived.Test.YtknfcamdfdfoeaaGreatDoorZ00
import Derived.Test.YtknfcamdfdfoeaaGreatDoorZ01
import Derived.Maps.Own
import Derived.Maps.OwnOps
import Derived.Maps.OwnSet
import Derived.Maps.Views
import Derived.StringKeys
import Derived.WalkArith
import Derived.Test.YtknfcamdfdfoeaaGreatDoorRows
set_option linter.unusedVariables false
set_option linter.unusedSimpArgs false
set_option maxRecDepth 100000
set_option maxHeartbeats 64000000
namespace Go.Proofs.YtknfcamdfdfoeaaGreatDoor
open Go.RowKit Go.Sort
theorem Jf2 (e:Ex):∀(A:Option Addr) (cap:Nat) (most:Int) (w:World),Jt w e A cap->-1000000<=most->most<=1000000->
  Calls Tryz.prog 16 #[exV e A cap,.int .i64 most] w fun r w'=>r = .returned (.int .i64 (e.count most))/\Below w.heap.size w w':=by
 induction e using Ex.ind with
 | h e ih=>
 intro A cap most w he hm cI;have hl:=he.len;unfold maxLen at hl;obtain⟨bI,aD⟩:=hl;unfold exV
 go_enter Tryz.func16,Tryz.ntmps16
 go_wp2_with fail
 refine Jo fun W0 ag=>?_;have ax:=Nd w W0 Uo;have bD:w.heap.size<W0.heap.size:=La;have p3:=Nb W0 w.heap.size 3 (.slice A e.sub.length cap) Uc;clear ag;replace he:=he.later ax
 go_loopw [5,6] (fun m i wr=>∃(k:Nat) (m':Int),k<=e.sub.length/\i = .int .i64 k/\m = .int .i64 m'/\1<=m'/\m'<=max 1 most/\Ex.countL (e.sub.drop k) m' most=e.count most/\Below W0.heap.size W0 wr) (fun _ i _=>e.sub.length-(intOf i).toNat)
 case atStart=>exact⟨0,1,Np,rfl,rfl,Ua,Ua,by simp [Ex.count_eq],Nt⟩
 case round=>
  obtain⟨k,m',hk,rfl,rfl,h0,h1,aa,ab⟩:=hrel;have hc:=Jg ab;have bu:=ab.size
  by_cases am:k<e.sub.length
  ·obtain⟨x,hx,aj,hd⟩:=Kl am;obtain⟨b,off,A',cap',rfl,c0,c1,c2,c3,hs⟩:=(he.later ab).get hx;rw [hd,Ex.countL] at aa;have ct:=Ex.count_bd x (most-m');have ihx:=ih x aj
   by_cases qK:m'>=most
   ·exact Uca
   ·rw [if_neg qK] at aa;have HR:=Nf aa;clear aa hd hx;have uM:m'<most:=Ua
    go_wp2_with (go_at_call 16;refine(ihx A' cap' (most-m') _ (hs.later Jb) Ua Ua).mono ?_;rintro r w1 ⟨rfl,ac⟩)
    exact Ucm
  ·exact Ubs
def X8 (p:Pr):ByteArray:=if K5 p=0 then Jal p else⟨#[]⟩
theorem Jh3 (p:Pr) (a:PrA) (w:World) (hp:Kr w p a) (n1:p.ins.length<=1000000) (n2:p.outs.length<=1000000) (n3:p.locals.length<=1000000) (n4:p.eqs.length<=1000000) :
  Calls Tryz.prog 110 #[prV p a] w fun r w'=>r = .returned (.tuple #[.string (X8 p),.int .i64 (K5 p)])/\Below w.heap.size w w':=by
 have bI:=hp.ins.len;have aD:=hp.outs.len;have fD:=hp.locals.len;have cG:=hp.eqs.len;unfold maxLen at bI aD fD cG;obtain⟨bI,iw⟩:=bI;obtain⟨aD,cI⟩:=aD;obtain⟨fD,kV⟩:=fD;obtain⟨cG,sS⟩:=cG;have gd:=fun W h=>Ju2 p a W (hp.later h);obtain⟨A1,c1,A2,c2,A3,c3,A4,c4⟩:=a;unfold prV at gd ⊢;dsimp only at *
 cases hw:Qw p
 ·have hv:K5 p=4:=Sh;have hs:X8 p=⟨#[]⟩:=Mz;have HS:=Nf hs;clear hs;have HV:=Nf hv;clear hv
  go_enter Tryz.func110,Tryz.ntmps110
  go_wp2_with (first|(go_at_call 128;refine mo (gd _ Jb) fun w1 ac ak af bV=>?_;(try simp at af)))
  go_ret2
  exact⟨by rw [HV.out,HS.out];rfl,Jb⟩
 obtain⟨aL,jT,jb,lj,qt⟩:=X4 hw;have hv:K5 p=if 4096<(Jal p).size then 3 else 0:=Sh;have HV:=Nf hv;clear hv;have vS:=Nf lj;clear lj;have qu:=Nf qt;clear qt;have mC:=fun W h=>Jpo p.ins A1 c1 jT n1 W (hp.ins.later h);have mD:=fun W h=>Jpo p.outs A2 c2 jb n2 W (hp.outs.later h);have z1:=Jjv jT;have z2:=Jjv jb;clear jT jb;have HPB:=Nf (show Jal p=Zs (Xr (if 0<p.locals.length then Ym p ++ ⟨#[118,97,114,10]⟩ else Ym p) p.locals ++ ⟨#[108,101,116,10]⟩) p.eqs ++ ⟨#[116,101,108,10]⟩ from rfl);have HHD:=Nf (show Ym p=⟨#[110,111,100,101,32]⟩ ++ p.name ++ ⟨#[32]⟩ ++ Y9 p.ins ++ ⟨#[32,114,101,116,117,114,110,115,32]⟩ ++ Y9 p.outs ++ ⟨#[59,10]⟩ from rfl);have y1:¬9223372036854775807<5+p.name.size:=Ua;have y2:¬9223372036854775807<5+p.name.size+1:=Ua;have y3:¬9223372036854775807<5+p.name.size+1+(Y9 p.ins).size:=Ua;have y4:¬9223372036854775807<5+p.name.size+1+(Y9 p.ins).size+9:=Ua;have y5:¬9223372036854775807<5+p.name.size+1+(Y9 p.ins).size+9+(Y9 p.outs).size:=Ua;have y6:¬9223372036854775807<5+p.name.size+1+(Y9 p.ins).size+9+(Y9 p.outs).size+2:=Ua;generalize Y9 p.ins=t1 at *;generalize Y9 p.outs=t2 at *
 go_enter Tryz.func110,Tryz.ntmps110
 go_wp2_with (first|(go_at_call 128;refine mo (gd _ Jb) fun w1 ac ak af bV=>?_;(try simp at af)))
 have hy1':=lt0 w w1;refine Jx Ug Ug (fun bj=>?_)
 repeat (quiet_step ((first|(go_at_call_of 129 A1;exact Calls.regrown_of (mC _ Jb))|(go_at_call_of 129 A2;exact Calls.regrown_of (mD _ Jb)))))
 refine wpQuiet_nil ?_;intro wq au;replace au:=qbo au;obtain⟨au,dA,bh⟩:=au;clear bj
 (try simp at bh)
 by_cases qv:0<p.locals.length
 ·have qw:(if 0<p.locals.length then Ym p ++ ⟨#[118,97,114,10]⟩ else Ym p)=Ym p ++ ⟨#[118,97,114,10]⟩:=if_pos qv;have vT:=Nf qw;clear qw
  go_wp2_with fail
  refine Jo fun W0 ag=>?_;have ax:=Nd w W0 Uo;have bD:w.heap.size<W0.heap.size:=Lk;have k4:=Nb W0 w.heap.size 4 (.slice A4 p.eqs.length c4) Uc;clear ag;have ip:=hp.locals.later ax;have bT:=hp.eqs.later ax;dsimp only at ip bT
  go_loopw [4,35] (fun o i wr=>∃(k:Nat) (s:ByteArray),k<=p.locals.length/\i = .int .i64 k/\o = .string s/\s.size<=200000000+70 * k/\Xr s (p.locals.drop k)=Xr (Ym p ++ ⟨#[118,97,114,10]⟩) p.locals/\Below W0.heap.size W0 wr) (fun _ i _=>p.locals.length-(intOf i).toNat)
  case atStart=>exact⟨0,_,Np,rfl,rfl,Uk,Tc,Nt⟩
  case round=>
   obtain⟨k,sx,hk,rfl,rfl,rV,aa,ab⟩:=hrel;have hc:=Jg ab;have bu:=ab.size
   by_cases am:k<p.locals.length
   ·obtain⟨x,hx,-,hd⟩:=Kl am;obtain⟨b,off,rfl,aH,⟨d0,d1,d2,d3⟩⟩:=(ip.later ab).get hx;rw [hd,Xr] at aa;have mn:=vS.out x (Ni hx);have hds:=Jc9 mn;have eA:=fun W=>Jpg x mn W;unfold vaV at eA;have HR:=Nf aa;clear aa hd hx;exact Uf2
   ·exact Bx
 ·have qw:(if 0<p.locals.length then Ym p ++ ⟨#[118,97,114,10]⟩ else Ym p)=Ym p:=if_neg qv;have vT:=Nf qw;clear qw
  go_wp2_with fail
  refine Jo fun W0 ag=>?_;have ax:=Nd w W0 Uo;have bD:w.heap.size<W0.heap.size:=Lk;have k4:=Nb W0 w.heap.size 4 (.slice A4 p.eqs.length c4) Uc;clear ag;have ip:=hp.locals.later ax;have bT:=hp.eqs.later ax;dsimp only at ip bT
  go_loopw [4,35] (fun o i wr=>∃(k:Nat) (s:ByteArray),k<=p.locals.length/\i = .int .i64 k/\o = .string s/\s.size<=200000000+70 * k/\Xr s (p.locals.drop k)=Xr (Ym p) p.locals/\Below W0.heap.size W0 wr) (fun _ i _=>p.locals.length-(intOf i).toNat)
  case atStart=>exact⟨0,_,Np,rfl,rfl,Uk,Tc,Nt⟩
  case round=>
   obtain⟨k,sx,hk,rfl,rfl,rV,aa,ab⟩:=hrel;have hc:=Jg ab;have bu:=ab.size
   by_cases am:k<p.locals.length
   ·exfalso;omega
   ·exact Bx
end Go.Proofs.YtknfcamdfdfoeaaGreatDoor
namespace Go.Proofs.YtknfcamdfdfoeaaGreatDoor
open Go.RowKit
def Xb:List Va->ByteArray->Option Va
 | [],_=>none
 | v :: l,s=>if (v.name.toList == s.toList)=true then some v else Xb l s
def K9 (a:Int) (s:ByteArray) (b:Int) (t:ByteArray):Bool:=a == b && s.toList == t.toList
def Jaw (l:List Va) (s:ByteArray) (ok:Bool):Int:=
 match Xb l s with
 | none=>19
 | some v=>if (ok && K9 v.ck v.cn 0 ⟨#[]⟩)=true then 0 else 21
def Jac (l:List Va) (k:Int) (s:ByteArray) (ck:Int) (cn:ByteArray):Int:=
 if k=3 then(match Xb l s with
  | none=>19
  | some v=>if K9 v.ck v.cn ck cn=true then 0 else 21)
 else if k=8 then Jaw l s (K9 ck cn 1 s)
 else if k=9 then Jaw l s (K9 ck cn 2 s)
 else if k=10 then Jaw l s (K9 ck cn 0 ⟨#[]⟩)
 else 0
def Jb3 (k:Int) (s:ByteArray) (c:Int×ByteArray):Int×ByteArray:=if k=8\/k=9 then(0,⟨#[]⟩) else if k=10 then(1,s) else c
def Ja0 (k:Int) (s:ByteArray) (c:Int×ByteArray):Int×ByteArray:=if k=8\/k=9 then(0,⟨#[]⟩) else if k=10 then(2,s) else c
namespace Ex
mutual
def clk (l:List Va):Ex->Int×ByteArray->Int
 | mk k _ s sub,c=>if Jac l k s c.1 c.2≠0 then Jac l k s c.1 c.2 else clkL l sub (Jb3 k s c) (Ja0 k s c)
def clkL (l:List Va):List Ex->Int×ByteArray->Int×ByteArray->Int
 | [],_,_=>0
 | x :: r,c,d=>if clk l x c≠0 then clk l x c else clkL l r d c
end
theorem clk_eq (l:List Va) (e:Ex) (c:Int×ByteArray):e.clk l c=if Jac l e.kind e.name c.1 c.2≠0 then Jac l e.kind e.name c.1 c.2 else clkL l e.sub (Jb3 e.kind e.name c) (Ja0 e.kind e.name c):=by cases e;rw [clk];rfl
end Ex
def Jhk (l:List Va) (e:Ex) (c:Int×ByteArray):Int:=if e.right≠0 then e.right else e.clk l c
def Yc (l:List Va) (v:Va):Int:=
 if K9 v.ck v.cn 0 ⟨#[]⟩=true then 0
 else match Xb l v.cn with
  | none=>19
  | some c=>if c.type≠2 then 20 else if K9 c.ck c.cn 0 ⟨#[]⟩=true then 0 else 21
theorem Jdg {a b:Int} {s t:ByteArray} : K9 a s b t=true<->a=b/\s.toList=t.toList:=by
 unfold K9;simp
namespace Ex
end Ex
theorem Jjj:∀ {l:List Ex},Ex.formedL l=true->∀x∈l,x.formed=true
 | [],_,x,hx=>by cases hx
 | y :: l,h,x,hx=>by
  simp only [Ex.formedL,Bool.and_eq_true] at h
  rcases List.mem_cons.1 hx with rfl|hx
  ·exact h.1
  ·exact Jjj h.2 x hx
theorem Jh0 {e:Ex} (h:e.formed=true):(e.kind=3\/e.kind=8\/e.kind=9\/e.kind=10)/\Kz e.name=true\/(e.kind≠3/\e.kind≠8/\e.kind≠9/\e.kind≠10)/\e.name.toList.isEmpty=true:=by
 rw [Ex.formed_eq] at h;unfold Jl Jw at h;generalize e.kind=k at *
 by_cases h1:k=1
 ·subst h1;simp at h ⊢;simp_all
 by_cases h2:k=2
 ·subst h2;simp at h ⊢;simp_all
 by_cases h3:k=3
 ·subst h3;simp at h ⊢;simp_all
 by_cases h4:k=4
 ·subst h4;simp at h ⊢;simp_all
 by_cases h5:k=5
 ·subst h5;simp at h ⊢;simp_all
 by_cases h6:k=6
 ·subst h6;simp at h ⊢;simp_all
 by_cases h7:k=7
 ·subst h7;simp at h ⊢;simp_all
 by_cases h8:k=8
 ·subst h8;simp at h ⊢;simp_all
 by_cases h9:k=9
 ·subst h9;simp at h ⊢;simp_all
 by_cases bM:k=10
 ·subst bM;simp at h ⊢;simp_all
 simp [h1,h2,h3,h4,h5,h6,h7,h8,h9,bM] at h
theorem Q9 {e:Ex} (h:e.formed=true):∀x∈e.sub,x.formed=true:=by
 rw [Ex.formed_eq,Bool.and_eq_true] at h;exact Jjj h.2
theorem Jfj {e:Ex} (h:e.formed=true) (hk:e.kind=10):e.sub.length=2:=by
 exact Ucp
theorem Jbx {s:ByteArray} (h:Kz s=true):s.toList.isEmpty=false:=by
 cases hs:s.toList.isEmpty with
 | false=>rfl
 | true=>
  exfalso
  have h0:s.toList = []:=Mx
  have h1:s.size=0:=by
   have:=congrArg List.length h0;rw [ByteArray.toList_eq] at this;simpa using this
  unfold Kz at h;rw [dif_neg Ua] at h
  cases h
theorem Jej {a b:ByteArray} (h:a.toList=b.toList):a=b:=Zf.1 (by rw [h];simp)
theorem Jem:∀ {l:List Va} {s:ByteArray} {v:Va},Xb l s=some v->v∈l/\v.name.toList=s.toList
 | [],s,v,h=>by simp [Xb] at h
 | u :: l,s,v,h=>by
  rw [Xb] at h
  split at h
  ·rename_i hn;obtain rfl:u=v:=by injection h
   exact⟨Ul,by simpa using hn⟩
  ·obtain⟨h1,h2⟩:=Jem h;exact⟨by simp [h1],h2⟩
end Go.Proofs.YtknfcamdfdfoeaaGreatDoor
namespace Go.Proofs.YtknfcamdfdfoeaaGreatDoor
open Go.RowKit Go.Sort Go.Maps Go.ChangeMaps Go.WideMaps
def upd (f:ByteArray->Option Int) (s:ByteArray) (v:Int):ByteArray->Option Int:=fun t=>if t.data=s.data then some v else f t
def Jz (P:Program) (k e:TypeId) (w:World) (b n:Nat) (f:ByteArray->Option Int):Prop:=
 ∃D:DataW Unit,w.ownsMap P k (plainElem P e) b n D/\Maps.IsMap D/\
  ∀s:ByteArray,Maps.has D (.string s.data.toList)=(f s).isSome/\D.atKey (.string s.data.toList) (.lit (.int .i64 0)) = .lit (.int .i64 ((f s).getD 0))
section
variable {P:Program} {k e:TypeId} {w w':World} {b n:Nat} {f:ByteArray->Option Int}
theorem Jz.made (w:World):Jz P k e (w.alloc (.map #[] 0)) w.heap.size 0 (fun _=>none):=
 ⟨.map [],World.ownsMap_made w P k _,isMap_empty,fun s=>⟨rfl,rfl⟩⟩
theorem Jz.keep (h:Jz P k e w b n f) (hb:∀k,k<w.heap.size->w'.heap[k]?=w.heap[k]?):Jz P k e w' b n f:=by
 obtain⟨D,h1,h2,h3⟩:=h;have am:=h1.lt;obtain⟨es,clock,hh,F,hs,hD⟩:=h1;exact⟨D,⟨es,clock,(hb b am).trans hh,F,hs,hD⟩,h2,h3⟩
theorem Jz.lt (h:Jz P k e w b n f):b<w.heap.size:=by
 obtain⟨D,h1,_⟩:=h;exact h1.lt
theorem Jz.bel (h:Jz P k e w b n f) (hb:Below w.heap.size w w'):Jz P k e w' b n f:=h.keep hb.block
theorem Jz.alloc (h:Jz P k e w b n f) {o:Obj} : Jz P k e (w.alloc o) b n f:=h.bel (Jc (Nt) o)
theorem Jz.drew (h:Jz P k e w b n f):Jz P k e w.drew b n f:=h
theorem Qb {ops:Array Oper} {rest:List Oper} {o:Oper} {a:Act} {Q:Exit->Act->World->Prop} (hg:o.guard=none) (m x:Operand) (t:TypeId) (jf:o.op=Op.lookup t m x false)
  (hk:P.underlying k=some .string) (ht:P.underlying t=some (.map k e)) (he:P.underlying e=some (.int .i64)) (hz:(zeroValue e).run P w = .ok (.int .i64 0) w)
  (b n:Nat) (f:ByteArray->Option Int) (s:ByteArray) (hm:a.eval m = .map (some b)) (ae:Jz P k e w b n f) (hx:a.eval x = .string s) (hs:s.size<=maxLen)
  (hK:wpList P ops Q rest (a.put o.dst (.int .i64 ((f s).getD 0))) w):wpList P ops Q (o :: rest) a w:=by
 obtain⟨D,h1,h2,h3⟩:=ae;refine wpList_lookup_own_int w hg m x t jf k e .i64 (string_keyed hk) ht he hz b n D hm h1 _ _ hx (keyOf_string_mk hk hs) fun c hc _=>?_;rw [(h3 s).2] at hc;have:(f s).getD 0=c:=by injection hc with hc;injection hc
 rw [<-this];exact hK
theorem Qh {ops:Array Oper} {rest:List Oper} {o:Oper} {a:Act} {Q:Exit->Act->World->Prop} (hg:o.guard=none) (m x:Operand) (t:TypeId) (jf:o.op=Op.lookup t m x true)
  (hk:P.underlying k=some .string) (ht:P.underlying t=some (.map k e)) (he:P.underlying e=some (.int .i64)) (hz:(zeroValue e).run P w = .ok (.int .i64 0) w)
  (b n:Nat) (f:ByteArray->Option Int) (s:ByteArray) (hm:a.eval m = .map (some b)) (ae:Jz P k e w b n f) (hx:a.eval x = .string s) (hs:s.size<=maxLen)
  (hK:wpList P ops Q rest (a.put o.dst (.tuple #[.int .i64 ((f s).getD 0),.bool (f s).isSome])) w):wpList P ops Q (o :: rest) a w:=by
 obtain⟨D,h1,h2,h3⟩:=ae;refine wpList_lookup_own_ok_int w hg m x t jf k e .i64 (string_keyed hk) ht he hz b n D hm h1 _ _ hx (keyOf_string_mk hk hs) fun c hc _=>?_;rw [(h3 s).2] at hc;have:(f s).getD 0=c:=by injection hc with hc;injection hc
 rw [<-this,(h3 s).1];exact hK
theorem Jau {ops:Array Oper} {rest:List Oper} {o:Oper} {a:Act} {Q:Exit->Act->World->Prop} (hg:o.guard=none) (m x v:Operand) (t:TypeId) (jf:o.op=Op.mapUpdate t m x v)
  (hk:P.underlying k=some .string) (ht:P.underlying t=some (.map k e)) (he:P.underlying e=some (.int .i64))
  (b n:Nat) (f:ByteArray->Option Int) (s:ByteArray) (i:Int) (hm:a.eval m = .map (some b)) (ae:Jz P k e w b n f) (hn:n<1000000000) (hx:a.eval x = .string s) (hv:a.eval v = .int .i64 i)
  (hs:s.size<=maxLen) (hi : -9223372036854775808<=i/\i<=9223372036854775807)
  (hK:∀w',Jz P k e w' b (n+1) (upd f s i)->w.grownBy w' (some b)->wpList P ops Q rest (a.put o.dst undef) w'):wpList P ops Q (o :: rest) a w:=by
 obtain⟨D,h1,h2,h3⟩:=ae;refine wpList_mapUpdate_own w hg m x v t jf k e (string_keyed hk) ht _ b n D hm h1 U2 _ _ _ hx hv (keyOf_string_mk hk hs) _ [] (plainElem_int he (WalkArith.wf_i64 hi)) fun w' h4 h5=>hK w' ⟨_,h4,?_,fun t=>?_⟩ h5
 ·exact h2.put _ _
 ·by_cases aU:t.data=s.data
  ·have dz:WideAt.IsKeyLit (.string s.data.toList):=Th;rw [aU,has_put_same h2 dz,atKey_put_same h2 dz];simp [upd,aU]
  ·exact Ubk
end
end Go.Proofs.YtknfcamdfdfoeaaGreatDoor
namespace Go.Proofs.YtknfcamdfdfoeaaGreatDoor
open Go.RowKit
def Xf:List Va->ByteArray->Int->Option Int
 | [],_,_=>none
 | v :: l,s,i=>if s.data=v.name.data then some i else Xf l s (i+1)
theorem Jli:∀ {l:List Va} {s:ByteArray} {i j:Int},Xf l s i=some j->∃k v,j=i+(k:Nat)/\l[k]?=some v/\v.name=s
 | [],_,_,_,h=>by simp [Xf] at h
 | v :: l,s,i,j,h=>by
  unfold Xf at h
  split at h
  ·rename_i hs;simp at h;exact⟨0,v,Tf,rfl,by ext1;exact hs.symm⟩
  ·obtain⟨k,u,h1,h2,h3⟩:=Jli h;exact⟨k+1,u,Ua,Lg,h3⟩
def Qi (l:List Va) (s:ByteArray):Option Int:=Xf l s 0
theorem Zi {l:List Va} {s:ByteArray} {j:Int} (h:Qi l s=some j):∃(k:Nat) (v:Va),j=k/\l[k]?=some v/\v.name=s:=by
 obtain⟨k,v,h1,h2,h3⟩:=Jli h;exact⟨k,v,Ua,h2,h3⟩
def K7 (l:List Va) (s:ByteArray):Int×Bool:=
 match Qi l s with
 | none=>(0,false)
 | some j=>(match l[j.toNat]? with|some v=>v.type|none=>0,true)
def Jcg (op t:Int):Int×Bool:=
 if op=8\/op=9\/op=10 then(t,true)
 else if op=11\/op=12 then(2,true)
 else if op=13\/op=14\/op=15\/op=16 then(2,t == 1)
 else(1,t == 1)
def Je3 (k n named:Int) (ts:List Int):Int×Bool:=
 if k=1 then(1,true)
 else if k=2 then(2,true)
 else if k=3 then(named,true)
 else if k=4 then(ts.getD 0 0,(ts.getD 0 0 == 1 && n == 1) || (ts.getD 0 0 == 2 && n == 2))
 else if k=5 then((Jcg n (ts.getD 0 0)).1,(Jcg n (ts.getD 0 0)).2 && ts.getD 0 0 == ts.getD 1 0)
 else if k=6 then(ts.getD 1 0,ts.getD 0 0 == 2 && ts.getD 1 0 == ts.getD 2 0)
 else if k=7 then(ts.getD 0 0,ts.getD 0 0 == ts.getD 1 0)
 else if k=8\/k=9 then(ts.getD 0 0,named == 2)
 else if k=10 then(ts.getD 0 0,named == 2 && ts.getD 0 0 == ts.getD 1 0)
 else(0,true)
def Jbl (out:Int) (ok:Bool):Int×Int:=if ok=true/\(out=1\/out=2) then(out,0) else(0,20)
def Y2 (l:List Va) (k n:Int) (s:ByteArray) (ts:List Int):Int×Int:=
 if s.toList.isEmpty=false/\(K7 l s).2=false then(0,19) else Jbl (Je3 k n (K7 l s).1 ts).1 (Je3 k n (K7 l s).1 ts).2
def Ku (acc:List Int) (r:List Int×Int):List Int×Int:=if r.2=0 then(acc ++ r.1,0) else([],r.2)
namespace Ex
mutual
def typ (l:List Va):Ex->Int×Int
 | mk k n s sub=>if (typL l sub).2=0 then Y2 l k n s (typL l sub).1 else(0,(typL l sub).2)
def typL (l:List Va):List Ex->List Int×Int
 | []=>([],0)
 | x :: r=>if (typ l x).2=0 then Ku [(typ l x).1] (typL l r) else([],(typ l x).2)
end
theorem typ_eq (l:List Va) (e:Ex):e.typ l=if (typL l e.sub).2=0 then Y2 l e.kind e.n e.name (typL l e.sub).1 else(0,(typL l e.sub).2):=by cases e;rw [typ];rfl
end Ex
theorem Xq (r:List Int×Int) (h:r.2≠0->r.1 = []):Ku [] r=r:=by
 unfold Ku
 split
 ·simp;ext1 <;> simp [*]
 ·rename_i h2;ext1 <;> simp [h h2]
theorem Yb (l:List Va) (sub:List Ex):(Ex.typL l sub).2≠0->(Ex.typL l sub).1 = []:=by
 cases sub with
 | nil=>simp [Ex.typL]
 | cons x r=>
  simp only [Ex.typL,Ku]
  repeat' split
  all_goals simp_all
theorem Yl (l:List Va) (acc:List Int) (x:Ex) (r:List Ex) (h:(x.typ l).2=0):Ku acc (Ex.typL l (x :: r))=Ku (acc ++ [(x.typ l).1]) (Ex.typL l r):=by
 simp only [Ex.typL,if_pos h,Ku]
 repeat' split
 all_goals simp_all
theorem Yk (l:List Va) (acc:List Int) (x:Ex) (r:List Ex) (h:(x.typ l).2≠0):Ku acc (Ex.typL l (x :: r))=([],(x.typ l).2):=by
 simp only [Ex.typL,if_neg h,Ku]
theorem Jj4 (l:List Va):∀sub:List Ex,(Ex.typL l sub).2=0->(Ex.typL l sub).1.length=sub.length
 | [],_=>by simp [Ex.typL]
 | x :: r,h=>by
  have ih:=Jj4 l r;simp only [Ex.typL,Ku] at h ⊢
  repeat' split at h
  all_goals simp_all
def Je (p:Pr):List Va:=p.ins ++ p.outs ++ p.locals
def Zz (l:List Va) (j:Int):Int:=match l[j.toNat]? with|some v=>v.type|none=>0
def eqE (l:List Va) (ins:Int) (done:ByteArray->Option Int) (q:Qe):Int:=
 match Qi l q.name with
 | none=>19
 | some j=>
  if j<ins then 19
  else if 0<(done q.name).getD 0 then 18
  else if (q.e.typ l).2≠0 then(q.e.typ l).2
  else if q.delay=1/\(q.first.typ l).1≠Zz l j then 20
  else if (q.e.typ l).1≠Zz l j then 20
  else 0
def Jah (l:List Va):Nat->List Va->Option Nat
 | _,[]=>none
 | k,v :: r=>if (Qi l v.name).getD 0≠(k:Int) then some k else Jah l (k+1) r
def Zy (l:List Va) (ins:Int):Nat->(ByteArray->Option Int)->List Qe->Option (Nat×Int)×(ByteArray->Option Int)
 | _,d,[]=>(none,d)
 | k,d,q :: r=>if eqE l ins d q≠0 then(some (k,eqE l ins d q),d) else Zy l ins (k+1) (upd d q.name ((d q.name).getD 0+1)) r
def Jam (d:ByteArray->Option Int):Nat->List Va->Option Nat
 | _,[]=>none
 | k,v :: r=>if (d v.name).getD 0=0 then some k else Jam d (k+1) r
def Jg3 (d:ByteArray->Option Int) (l:List Va) (ins:Nat):Int×Int×Int:=
 match Jam d ins (l.drop ins) with
 | some k=>(2,(k:Int),8)
 | none=>(0,0,0)
def Jkn (l:List Va) (ins:Nat) (r:Option (Nat×Int)×(ByteArray->Option Int)):Int×Int×Int:=
 match r.1 with
 | some (k,e)=>(3,(k:Int),e)
 | none=>Jg3 r.2 l ins
def Jhl (p:Pr) (r:Option Nat):Int×Int×Int:=
 match r with
 | some k=>(2,(k:Int),18)
 | none=>Jkn (Je p) p.ins.length (Zy (Je p) p.ins.length 0 (fun _=>none) p.eqs)
def J7 (p:Pr):Int×Int×Int:=
 if K5 p≠0 then(4,0,K5 p)
 else if 8<p.ins.length\/8<p.outs.length\/24<(Je p).length then(4,0,3)
 else Jhl p (Jah (Je p) 0 (Je p))
end Go.Proofs.YtknfcamdfdfoeaaGreatDoor
namespace Go.Proofs.YtknfcamdfdfoeaaGreatDoor
open Go.RowKit Go.Sort
theorem Jiz (a b:Int) (w:World) :
  Calls Tryz.prog 153 #[.int .i32 a,.int .i64 b] w fun e w'=>e = .returned (.tuple #[.int .i64 (Jcg a b).1,.bool (Jcg a b).2])/\w=w':=by
 go_enter Tryz.func153,Tryz.ntmps153
 go_wp2_with fail
 all_goals (go_ret2;exact⟨by simp_all [Jcg],rfl⟩)
def Jfs (l:List Va) (k:Nat):ByteArray->Option Int:=fun s=>Xf (l.drop k) s k
theorem Jse {l:List Va} {k:Nat} {v:Va} (h:l[k]?=some v):upd (Jfs l (k+1)) v.name k=Jfs l k:=by
 funext s
 unfold upd Jfs;have am:k<l.length:=(Nh h).1
 have hd:l.drop k=v :: l.drop (k+1):=by
  rw [No am];have:l[k]=v:=(Nh h).2;rw [this]
 rw [hd,Xf];exact Gd
theorem Jvv (n:Int) (w:World):(Instr.makeMap 115 (some (.int .i64 n))).run Tryz.prog w = .ok (.map (some w.heap.size)) (w.alloc (.map #[] 0)):=by
 have hu:Tryz.prog.underlying 115=some (.map 9 3):=Tryz.underlying115;simp only [Instr.makeMap,Sem.run_bind,run_underlying hu,Result.andThen];exact Gd
theorem Jnu {w a b:World} {g:Nat} (h:Below w.heap.size w a) (hg:a.grownBy b (some g)) (hw:w.heap.size<=g):Below w.heap.size w b:=
 h.grown hg h.size (fun k hk=>by injection hk with hk;omega)
theorem Jtr (l:List Va) (A:Option Addr) (cap:Nat) (hs:∀v∈l,v.name.size<=maxLen) (hn:l.length<=1000000) (w:World) (hl:Ju w l A cap) :
  Calls Tryz.prog 111 #[.slice A l.length cap] w fun r w'=>(∃B,r = .returned (.map (some B))/\w.heap.size<=B/\Jz Tryz.prog 9 3 w' B l.length (Qi l))/\Below w.heap.size w w':=by
 have aD:=hl.len;unfold maxLen at aD;obtain⟨fD,cG⟩:=aD;have jH:=Jvv (l.length:Int);have cP:Jfs l l.length=fun _=>none:=by funext s;simp [Jfs,Xf]
 have cJ:=Nf cP;clear cP
 go_enter Tryz.func111,Tryz.ntmps111
 go_wp2_with fail
 go_loopw [4] (fun i wr=>∃k:Nat,k<=l.length/\i = .int .i64 ((k:Int)-1)/\Jz Tryz.prog 9 3 wr w.heap.size (l.length-k) (Jfs l k)/\Below w.heap.size w wr) (fun i _=>(intOf i+1).toNat)
 case atStart=>exact⟨l.length,Ns _,rfl,by rw [cJ.out,Nat.sub_self];exact Jz.made w,Jb⟩
 case round=>
  obtain⟨k,hk,rfl,hm,ab⟩:=hrel
  by_cases am:0<k
  ·obtain⟨j,rfl⟩:∃j,k=j+1:=⟨k-1,Ua⟩;have mX:j<l.length:=Ua;have hx:l[j]?=some l[j]:=Ng mX;generalize l[j]=x at hx;obtain⟨b,off,rfl,aH,⟨d0,d1,d2,d3⟩⟩:=(hl.later ab).get hx;have cE:=hs x (Ni hx);have sP:=Jse hx;have zj:=Nf sP;clear sP hx;have wP:((j+1:Nat):Int)-1=j:=Ua;rw [wP];have nn:(0:Int)<=j:=Ua
   go_wp2_with (at_mapUpdate;refine Jau rfl (.tmp 15) (.tmp 20) (.tmp 21) 115 rfl Tryz.underlying9 Tryz.underlying115 Tryz.underlying3 w.heap.size _ _ x.name j rfl hm Ua rfl rfl cE Ua ?_;intro w2 cI aG)
   rw [zj.out] at cI
   go_wp2_with fail
   go_roundw
   case rel=>exact⟨j,Ua,Tb,by rw [show l.length-j=l.length-(j+1)+1 from by omega];exact cI,Jnu ab aG (Ns _)⟩
   case measure=>first|(simp [intOf];done)|(simp [intOf];omega)
  ·obtain rfl:k=0:=Ua;have hf:Jfs l 0=Qi l:=by funext s;simp [Jfs,Qi]
   rw [hf,Nat.sub_zero] at hm
   go_wp2_with fail
   go_ret;exact⟨⟨w.heap.size,rfl,Ns _,hm⟩,ab⟩
structure Jdw (w:World) (l:List Va) (A:Option Addr) (cap B n:Nat):Prop where
 vars:Ju w l A cap
 map:Jz Tryz.prog 9 3 w B n (Qi l)
theorem Jdw.later {w w':World} {l:List Va} {A:Option Addr} {cap B n:Nat} (h:Jdw w l A cap B n) (hb:Below w.heap.size w w'):Jdw w' l A cap B n:=⟨h.vars.later hb,h.map.bel hb⟩
def Q6 (l:List Va) (A:Option Addr) (cap B:Nat):Value:= .agg #[.slice A l.length cap,.map (some B)]
theorem Jr8 (l:List Va) (A:Option Addr) (cap B n:Nat) (s:ByteArray) (hs:s.size<=maxLen) (w:World) (hl:Jdw w l A cap B n) :
  Calls Tryz.prog 152 #[Q6 l A cap B,.string s] w fun r w'=>r = .returned (.tuple #[.int .i64 (K7 l s).1,.bool (K7 l s).2])/\Below w.heap.size w w':=by
 have aD:=hl.vars.len;unfold maxLen at aD;obtain⟨fD,cG⟩:=aD;have hm:=hl.map;have hBz:=hm.lt;have hv:K7 l s=K7 l s:=rfl;rw (occs:= .pos [2]) [K7] at hv;unfold Q6
 cases hf:Qi l s with
 | none=>
  rw [hf] at hv;have HV:=Nf hv;clear hv
  go_enter Tryz.func152,Tryz.ntmps152
  go_wp2_with (first|(at_lookup;refine Qh rfl (.tmp 10) (.tmp 11) 115 rfl Tryz.underlying9 Tryz.underlying115 Tryz.underlying3 (Kj _) B n (Qi l) s rfl Udh rfl hs ?_))
  go_wp2_with fail
  go_ret2
  exact⟨Vi,Jb⟩
 | some j=>
  rw [hf] at hv;obtain⟨k,v,rfl,hx,_⟩:=Zi hf;have fR:k<l.length:=(Nh hx).1;obtain⟨b,off,rfl,aH,⟨d0,d1,d2,d3⟩⟩:=hl.vars.get hx;simp only [Int.toNat_natCast,hx] at hv;have gz:b<w.heap.size+1:=Ua;clear hx;have HV:=Nf hv;clear hv
  go_enter Tryz.func152,Tryz.ntmps152
  go_wp2_with (first|(at_lookup;refine Qh rfl (.tmp 10) (.tmp 11) 115 rfl Tryz.underlying9 Tryz.underlying115 Tryz.underlying3 (Kj _) B n (Qi l) s rfl Udh rfl hs ?_))
  go_wp2_with fail
  go_ret2
  exact⟨Vi,Jb⟩
theorem Zd:(Tryz.prog.info? 3).map (fun i=>(i.zero,i.size,i.bytes))=some (some (.int .i64 0),1,8):=Ug
theorem Jwm {w:World} {base base':Nat} {e:TypeId} {size n:Nat} {v:Value} {xs:List Value} (h:w.ownsRow base e size v n xs) (hb:base'<=base):w.ownsRow base' e size v n xs:=by
 refine⟨h.1,?_⟩
 rcases h.2 with h2|⟨g,cap,cur,hv,hg,r⟩
 ·exact .inl h2
 ·exact .inr ⟨g,cap,cur,hv,Ua,r⟩
theorem Jvu (e:Ex) (l:List Va) (A:Option Addr) (cap B n:Nat) (Ae:Option Addr) (ce:Nat) (w:World) (he:Jt w e Ae ce) (hl:Jdw w l A cap B n) (h3:e.sub.length<=3)
  (ix:∀x∈e.sub,∀(A':Option Addr) (c':Nat) (W:World),Jt W x A' c'->Jdw W l A cap B n->
   Calls Tryz.prog 132 #[Q6 l A cap B,exV x A' c'] W fun r w'=>r = .returned (.tuple #[.int .i64 (x.typ l).1,.int .i64 (x.typ l).2])/\Below W.heap.size W w') :
  Calls Tryz.prog 151 #[Q6 l A cap B,exV e Ae ce] w fun r w'=>
   (∃v,r = .returned (.tuple #[v,.int .i64 (Ex.typL l e.sub).2])/\w'.ownsRow w.heap.size 3 1 v (Ex.typL l e.sub).1.length ((Ex.typL l e.sub).1.map (Value.int .i64)))/\Below w.heap.size w w':=by
 have ai:=he.len;unfold maxLen at ai;obtain⟨bI,aD⟩:=ai;have hT:=Nf (show Ku [] (Ex.typL l (e.sub.drop 0))=Ex.typL l e.sub from Xq _ (Yb l e.sub));unfold Q6 exV at *
 go_enter Tryz.func151,Tryz.ntmps151
 go_wp2_with fail
 refine Jo fun W0 ag=>?_;have ax:=Nd w W0 Uo;have bD:w.heap.size<W0.heap.size:=Us;have hz01:w.heap.size+1<W0.heap.size:=La;have l0:=Nb W0 w.heap.size 0 (.slice A l.length cap) Uc;have l1:=Nb W0 w.heap.size 1 (.map (some B)) Uc;clear ag;replace he:=he.later ax;replace hl:=hl.later ax
 go_loopw [6,14] (fun v i wr=>∃(k:Nat) (acc:List Int),k<=e.sub.length/\i = .int .i64 k/\acc.length=k/\wr.ownsRow W0.heap.size 3 1 v k (acc.map (Value.int .i64))/\Ku acc (Ex.typL l (e.sub.drop k))=Ex.typL l e.sub/\Below W0.heap.size W0 wr) (fun _ i _=>e.sub.length-(intOf i).toNat)
 case atStart=>exact⟨0,[],Np,rfl,rfl,Nw,hT.out,Nt⟩
 case round=>
  obtain⟨k,acc,hk,rfl,aR,ae,aa,ab⟩:=hrel;have hc:=Jg ab;have bu:=ab.size;have af:=lt0 w wr;have br:=ltA w 1 wr;have dt:=Nf aR;clear aR
  by_cases am:k<e.sub.length
  ·obtain⟨x,hx,aj,hd⟩:=Kl am;obtain⟨b,off,A',cap',rfl,c0,c1,c2,c3,hs⟩:=(he.later ab).get hx;rw [hd] at aa;have cw:=ix x aj A' cap'
   cases ew:((x.typ l).2 != 0)
   ·have h0:(x.typ l).2=0:=Vr;rw [Yl l acc x _ h0] at aa;have HR:=Nf aa;clear aa hd hx h0
    go_wp2_with (first|(go_at_call 132;refine(cw _ (hs.later Jb) (hl.later Jb)).mono ?_;rintro r w1 ⟨rfl,ac⟩;have ak:=Jg ac;have af:=ac.size;(try simp at af))|(at_builtin;refine Kap rfl (.tmp 27) (.tmp 29) 77 rfl W0.heap.size 3 (.int .i64 0) 1 8 Tryz.underlying77 Zd rfl Ua u6 k (acc.map (Value.int .i64)) _ 1 [.int .i64 (x.typ l).1] rfl Udk rfl rfl (fun j u hj=>U9) Uv Ua Ua U7 ?_;intro v2 w2 ao aq;have br:=aq.size;(try simp at br)))
    exact Ued
   ·have h0:(x.typ l).2≠0:=Vr;rw [Yk l acc x _ h0] at aa;have HR:=Nf aa.symm;clear aa hd hx h0
    go_wp2_with (first|(go_at_call 132;refine(cw _ (hs.later Jb) (hl.later Jb)).mono ?_;rintro r w1 ⟨rfl,ac⟩;have ak:=Jg ac;have af:=ac.size;(try simp at af)))
    go_ret2
    exact⟨⟨.slice none 0 0,by rw [HR.out];rfl,by rw [HR.out];exact Nw⟩,Jb⟩
  ·obtain rfl:k=e.sub.length:=Ua;rw [Nn,Ex.typL,Ku,if_pos rfl,List.append_nil] at aa;have HR:=Nf aa.symm;clear aa
   go_wp2_with fail
   go_ret2
   refine⟨⟨_,by rw [HR.out];rfl,?_⟩,Jb⟩;rw [HR.out];have:=dt.out;dsimp only;rw [this];exact Jwm ae Ua
theorem Jzk (l:List Va) (e:Ex) (h:(e.typ l).2=0):(e.typ l).1=1\/(e.typ l).1=2:=by
 rw [Ex.typ_eq] at h ⊢
 split at h
 ·rename_i h0;rw [if_pos h0];unfold Y2 at h ⊢
  split at h
  ·exact Lt
  ·rename_i h1;rw [if_neg h1];unfold Jbl at h ⊢
   split at h
   ·rename_i h2;rw [if_pos h2];exact h2.2
   ·exact Lt
 ·rename_i h0;exact absurd h h0
theorem Jl8 (l:List Va):∀sub:List Ex,(Ex.typL l sub).2=0->∀t∈(Ex.typL l sub).1,t=1\/t=2
 | [],_,t,ht=>by simp [Ex.typL] at ht
 | x :: r,h,t,ht=>by
  simp only [Ex.typL,Ku] at h ht
  split at h
  ·rename_i h0;rw [if_pos h0] at ht
   split at h
   ·rename_i h1;rw [if_pos h1] at ht;simp only [List.singleton_append,List.mem_cons] at ht
    rcases ht with rfl|ht
    ·exact Jzk l x h0
    ·exact Jl8 l r h1 t ht
   ·rename_i h1;exact absurd h h1
  ·rename_i h0;exact absurd h h0
def Q7 (e:Ex) (l:List Va) (A:Option Addr) (cap B:Nat) (Ae:Option Addr) (ce:Nat) (w:World):Prop:=
 ∀W,Below w.heap.size w W->Calls Tryz.prog 151 #[Q6 l A cap B,exV e Ae ce] W fun r w'=>
   (∃v,r = .returned (.tuple #[v,.int .i64 (Ex.typL l e.sub).2])/\w'.ownsRow W.heap.size 3 1 v (Ex.typL l e.sub).1.length ((Ex.typL l e.sub).1.map (Value.int .i64)))/\Below W.heap.size W w'
def Xz (e:Ex) (l:List Va) (A:Option Addr) (cap B:Nat) (w:World):Prop:=
 ∀W,Below w.heap.size w W->Calls Tryz.prog 152 #[Q6 l A cap B,.string e.name] W fun r w'=>r = .returned (.tuple #[.int .i64 (K7 l e.name).1,.bool (K7 l e.name).2])/\Below W.heap.size W w'
theorem Jzt (e:Ex) (l:List Va) (A:Option Addr) (cap B:Nat) (Ae:Option Addr) (ce:Nat) (w:World) (hk:e.kind=1) (aU:Ex.typL l e.sub=([],0)) (dI:e.name.toList.isEmpty=true)
  (av:Q7 e l A cap B Ae ce w) (aF:Xz e l A cap B w) :
  Calls Tryz.prog 132 #[Q6 l A cap B,exV e Ae ce] w fun r w'=>r = .returned (.tuple #[.int .i64 (e.typ l).1,.int .i64 (e.typ l).2])/\Below w.heap.size w w':=by
 have hv:e.typ l=Y2 l e.kind e.n e.name []:=Lz;rw [hk,Y2,if_neg Lx] at hv;have dS:(Ex.typL l e.sub).1 = []:=L2;have lG:(Ex.typL l e.sub).2=0:=L2;clear aU;unfold Q7 at av;unfold Xz at aF;have q1:(e.kind == 1)=true:=Ud;clear hk;unfold Q6 exV at *;simp [Je3,Jbl] at hv;have HV:=Nf hv;clear hv
 go_enter Tryz.func132,Tryz.ntmps132
 go_wp2_with (first|(go_at_call 151;refine(av _ Jb).mono ?_;rintro r w1 ⟨⟨v,rfl,ae⟩,ac⟩;have ⟨ak,af⟩:=aft ac;(try simp at af);have bV:=alt ac;rw [dS] at ae)|(go_at_call 152;refine(aF _ Jb).mono ?_;rintro r w1 ⟨rfl,ac⟩;have ⟨ak,af⟩:=aft ac;(try simp at af);have bV:=alt ac;(try have eC:=Nr aG ac.size)))
 go_ret2
 exact⟨Vi,Jb⟩
theorem Jzr (e:Ex) (l:List Va) (A:Option Addr) (cap B:Nat) (Ae:Option Addr) (ce:Nat) (w:World) (hk:e.kind=2) (aU:Ex.typL l e.sub=([],0)) (dI:e.name.toList.isEmpty=true)
  (av:Q7 e l A cap B Ae ce w) (aF:Xz e l A cap B w) :
  Calls Tryz.prog 132 #[Q6 l A cap B,exV e Ae ce] w fun r w'=>r = .returned (.tuple #[.int .i64 (e.typ l).1,.int .i64 (e.typ l).2])/\Below w.heap.size w w':=by
 have hv:e.typ l=Y2 l e.kind e.n e.name []:=Lz;rw [hk,Y2,if_neg Lx] at hv;have dS:(Ex.typL l e.sub).1 = []:=L2;have lG:(Ex.typL l e.sub).2=0:=L2;clear aU;unfold Q7 at av;unfold Xz at aF;have q1:(e.kind == 1)=false:=Ud;have q2:(e.kind == 2)=true:=Ud;clear hk;unfold Q6 exV at *;simp [Je3,Jbl] at hv;have HV:=Nf hv;clear hv
 go_enter Tryz.func132,Tryz.ntmps132
 go_wp2_with (first|(go_at_call 151;refine(av _ Jb).mono ?_;rintro r w1 ⟨⟨v,rfl,ae⟩,ac⟩;have ⟨ak,af⟩:=aft ac;(try simp at af);have bV:=alt ac;rw [dS] at ae)|(go_at_call 152;refine(aF _ Jb).mono ?_;rintro r w1 ⟨rfl,ac⟩;have ⟨ak,af⟩:=aft ac;(try simp at af);have bV:=alt ac;(try have eC:=Nr aG ac.size)))
 go_ret2
 exact⟨Vi,Jb⟩
theorem Jzx (e:Ex) (l:List Va) (A:Option Addr) (cap B:Nat) (Ae:Option Addr) (ce:Nat) (w:World) (hk:e.kind=3) (aU:Ex.typL l e.sub=([],0)) (dI:e.name.toList.isEmpty=false) (nP:(K7 l e.name).2=true)
  (av:Q7 e l A cap B Ae ce w) (aF:Xz e l A cap B w) :
  Calls Tryz.prog 132 #[Q6 l A cap B,exV e Ae ce] w fun r w'=>r = .returned (.tuple #[.int .i64 (e.typ l).1,.int .i64 (e.typ l).2])/\Below w.heap.size w w':=by
 have hv:e.typ l=Y2 l e.kind e.n e.name []:=Lz;rw [hk,Y2,if_neg Lx] at hv;have dS:(Ex.typL l e.sub).1 = []:=L2;have lG:(Ex.typL l e.sub).2=0:=L2;clear aU;unfold Q7 at av;unfold Xz at aF;have q1:(e.kind == 1)=false:=Ud;have q2:(e.kind == 2)=false:=Ud;have q3:(e.kind == 3)=true:=Ud;clear hk;unfold Q6 exV at *;generalize aL:(K7 l e.name).1=nm at hv aF;clear aL
 rcases(show nm=1\/nm=2\/(nm≠1/\nm≠2) from by omega) with rfl|rfl|⟨n1,n2⟩
 ·replace hv:e.typ l=(1,0):=by rw [hv];rfl
  exact Ufn
 ·replace hv:e.typ l=(2,0):=by rw [hv];rfl
  exact Ufn
 ·replace hv:e.typ l=(0,20):=by rw [hv];exact if_neg (by rintro⟨_,h⟩;exact h.elim n1 n2)
  have m1:(nm != 1)=true:=by simpa using n1
  have m2:(nm != 2)=true:=by simpa using n2
  clear n1 n2;exact Ufn
theorem Kac (e:Ex) (l:List Va) (A:Option Addr) (cap B:Nat) (Ae:Option Addr) (ce:Nat) (w:World) (t0:Int) (hk:e.kind=4) (aU:Ex.typL l e.sub=([t0],0)) (fQ:t0=1\/t0=2) (hn:e.n=1\/e.n=2) (dI:e.name.toList.isEmpty=true)
  (av:Q7 e l A cap B Ae ce w) (aF:Xz e l A cap B w) :
  Calls Tryz.prog 132 #[Q6 l A cap B,exV e Ae ce] w fun r w'=>r = .returned (.tuple #[.int .i64 (e.typ l).1,.int .i64 (e.typ l).2])/\Below w.heap.size w w':=by
 have hv:e.typ l=Y2 l e.kind e.n e.name [t0]:=Lz;rw [hk,Y2,if_neg Lx] at hv;have dS:(Ex.typL l e.sub).1 = [t0]:=L2;have lG:(Ex.typL l e.sub).2=0:=L2;clear aU;unfold Q7 at av;unfold Xz at aF;have q1:(e.kind == 1)=false:=Ud;have q2:(e.kind == 2)=false:=Ud;have q3:(e.kind == 3)=false:=Ud;have q4:(e.kind == 4)=true:=Ud;clear hk;unfold Q6 exV at *
 rcases fQ with rfl|rfl <;> rcases hn with hn|hn <;>
 ·rw [hn] at hv;simp [Je3,Jbl] at hv
  (try have eR:(e.n == 1)=true:=by rw [hn];rfl)
  (try have eR:(e.n == 1)=false:=by rw [hn];rfl)
  (try have eu:(e.n == 2)=true:=by rw [hn];rfl)
  (try have eu:(e.n == 2)=false:=by rw [hn];rfl)
  clear hn;have HV:=Nf hv;clear hv
  go_enter Tryz.func132,Tryz.ntmps132
  go_wp2_with (first|(go_at_call 151;refine(av _ Jb).mono ?_;rintro r w1 ⟨⟨v,rfl,ae⟩,ac⟩;have ⟨ak,af⟩:=aft ac;(try simp at af);have bV:=alt ac;rw [dS] at ae;simp only [List.map_cons,List.map_nil,Nl,Nm,Nat.zero_add,Nat.reduceAdd] at ae;obtain⟨g,gc,rfl,eN,aG,bJ,cg,ah⟩:=Kc ae Ua;unfold maxLen at cg;have e0:=ah 0 _ rfl;clear ah ae)|(go_at_call 152;refine(aF _ Jb).mono ?_;rintro r w1 ⟨rfl,ac⟩;have ⟨ak,af⟩:=aft ac;(try simp at af);have bV:=alt ac;(try have eC:=Nr aG ac.size)))
  go_ret2
  exact⟨Vi,Jb⟩
theorem Jzv (e:Ex) (l:List Va) (A:Option Addr) (cap B:Nat) (Ae:Option Addr) (ce:Nat) (w:World) (t0 t1 t2:Int) (hk:e.kind=6) (aU:Ex.typL l e.sub=([t0,t1,t2],0)) (fQ:t0=1\/t0=2) (gJ:t1=1\/t1=2) (nQ:t2=1\/t2=2) (dI:e.name.toList.isEmpty=true)
  (av:Q7 e l A cap B Ae ce w) (aF:Xz e l A cap B w) :
  Calls Tryz.prog 132 #[Q6 l A cap B,exV e Ae ce] w fun r w'=>r = .returned (.tuple #[.int .i64 (e.typ l).1,.int .i64 (e.typ l).2])/\Below w.heap.size w w':=by
 have hv:e.typ l=Y2 l e.kind e.n e.name [t0,t1,t2]:=Lz;rw [hk,Y2,if_neg Lx] at hv;have dS:(Ex.typL l e.sub).1 = [t0,t1,t2]:=L2;have lG:(Ex.typL l e.sub).2=0:=L2;clear aU;unfold Q7 at av;unfold Xz at aF;have q1:(e.kind == 1)=false:=Ud;have q2:(e.kind == 2)=false:=Ud;have q3:(e.kind == 3)=false:=Ud;have q4:(e.kind == 4)=false:=Ud;have q5:(e.kind == 5)=false:=Ud;have q6:(e.kind == 6)=true:=Ud;clear hk;unfold Q6 exV at *
 have dD:∀(p q:Bool),(t0 == 2)=p->(t1 == t2)=q->e.typ l=if (p && q)=true/\(t1=1\/t1=2) then(t1,0) else(0,20):=by
  rintro p q rfl rfl;rw [hv];rfl
 clear hv
 cases a:(t0 == 2)
 ·have hv:e.typ l=(0,20):=by rw [dD _ _ a rfl];rfl
  exact Uav
 cases b:(t1 == t2)
 ·have hv:e.typ l=(0,20):=by rw [dD _ _ a b];rfl
  exact Uav
 have hv:=dD _ _ a b;clear dD
 rcases gJ with rfl|rfl
 ·replace hv:e.typ l=(1,0):=hv;exact Ua0
 ·replace hv:e.typ l=(2,0):=hv;exact Ua0
end Go.Proofs.YtknfcamdfdfoeaaGreatDoor
