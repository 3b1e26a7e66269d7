/- Lemmas. -/
import Derived.Test.YtknfcamdfdfoeaaGreatDoorMac
import Derived.Test.YtknfcamdfdfoeaaGreatDoorRows
import Derived.Test.YtknfcamdfdfoeaaGreatDoorZ00
import Derived.Test.YtknfcamdfdfoeaaGreatDoorZ10
import Derived.Test.YtknfcamdfdfoeaaGreatDoorZ03
import Derived.Test.YtknfcamdfdfoeaaGreatDoorZ11
set_option linter.unusedVariables false
set_option linter.unusedSimpArgs false
set_option maxRecDepth 100000
set_option maxHeartbeats 64000000
namespace Go.Proofs.YtknfcamdfdfoeaaGreatDoor
open Go.RowKit Go.Sort
theorem Yp (a b:Int) (w:World):Calls Tryz.prog 174 #[.int .i64 a,.int .i64 b] w fun r w'=>r = .returned (.int .i64 (Y1 a b))/\w=w':=by
 by_cases h:a=b
 ·have hv:Y1 a b=a:=by unfold Y1;rw [if_pos h]
  have t:(a == b)=true:=Ve;exact Ub7
 ·have hv:Y1 a b=0:=by unfold Y1;rw [if_neg h]
  have t:(a == b)=false:=Ve;exact Ub7
theorem Jj3 (op t:Int) (w:World):Calls Tryz.prog 173 #[.int .i64 op,.int .i64 t] w fun r w'=>r = .returned (.int .i64 (Jbw op t))/\w=w':=by
 have hv:Jbw op t=Jbw op t:=rfl;rw (occs:= .pos [2]) [Jbw] at hv
 by_cases h0:t=0
 ·rw [if_pos h0] at hv;have t0:(t == 0)=true:=by simpa using h0
  clear h0;exact Ucb
 rw [if_neg h0] at hv;have t0:(t == 0)=false:=by simpa using h0
 by_cases h8:8<=op
 ·by_cases bM:op<=10
  ·rw [if_pos ⟨h8,bM⟩] at hv;have d8:decide (8<=op)=true:=Dp;have d10:decide (op<=10)=true:=Fb;exact Ucb
  rw [if_neg Ua] at hv;have d8:decide (8<=op)=true:=Dp;have d10:decide (op<=10)=false:=Fb
  by_cases gh:op=11\/op=12
  ·rw [if_pos gh] at hv
   rcases gh with gh|gh
   ·have e1:(op == 11)=true:=Sy;exact Ub2
   ·have e1:(op == 11)=false:=by rw [gh];rfl
    have e2:(op == 12)=true:=Sy;exact Ub2
  rw [if_neg gh] at hv;have e1:(op == 11)=false:=Uj;have e2:(op == 12)=false:=Uj
  by_cases h1:t≠1
  ·exact Ubn
  rw [if_neg h1,if_neg Ua] at hv;have t1:(t != 1)=false:=Lw;have d7:decide (op<=7)=false:=Uj;exact Ub3
 ·rw [if_neg Ua,if_neg Ua] at hv;have d8:decide (8<=op)=false:=Dp;have e1:(op == 11)=false:=Uj;have e2:(op == 12)=false:=Uj
  by_cases h1:t≠1
  ·exact Ubn
  rw [if_neg h1,if_pos Ua] at hv;have t1:(t != 1)=false:=Lw;have d7:decide (op<=7)=true:=Uj;exact Ub3
def Jcr (l:List Va) (A:Option Addr) (cap:Nat) (x:Ex):Prop:=∀(A':Option Addr) (c':Nat) (W:World),Jt W x A' c'->Ju W l A cap->
  Calls Tryz.prog 160 #[exV x A' c',.slice A l.length cap] W fun r w'=>r = .returned (.tuple #[.int .i64 (x.typ l).1,.int .i64 (x.typ l).2])/\Below W.heap.size W w'
theorem Jy0 (l:List Va) (A:Option Addr) (cap:Nat) (e:Ex) (ih:∀x∈e.sub,Jcr l A cap x) (Ae:Option Addr) (ce:Nat) (w:World) (he:Jt w e Ae ce) (hl:Ju w l A cap) (h3:e.sub.length<=3) (fK:(Ex.typL l e.sub).2≠0) :
  Calls Tryz.prog 160 #[exV e Ae ce,.slice A l.length cap] w fun r w'=>r = .returned (.tuple #[.int .i64 (e.typ l).1,.int .i64 (e.typ l).2])/\Below w.heap.size w w':=by
 have hv:e.typ l=(0,(Ex.typL l e.sub).2):=by rw [Ex.typ_eq,if_neg fK]
 have jQ:=Lib.hid hv;clear hv;have HB:=Lib.hid fK;clear fK;have ai:=he.len;unfold maxLen at ai;obtain⟨bI,aD⟩:=ai;have hT:=Lib.hid (show Ku [] (Ex.typL l (e.sub.drop 0))=Ex.typL l e.sub from Xq _ (Yb l e.sub));unfold exV
 go_enter Tryz.func160,Tryz.ntmps160
 go_wp2_with fail
 refine Jo fun W0 ag=>?_;have ax:Below w.heap.size w W0:=Uo;have bD:w.heap.size<W0.heap.size:=Us;have p0:W0.cell? ⟨w.heap.size,0,none⟩=some (.int .i64 e.kind):=Uc;have p1:W0.cell? ⟨w.heap.size,1,none⟩=some (.int .i32 e.n):=Uc;have p2:W0.cell? ⟨w.heap.size,2,none⟩=some (.string e.name):=Uc;have p3:W0.cell? ⟨w.heap.size,3,none⟩=some (.slice Ae e.sub.length ce):=Uc;clear ag;replace he:=he.later ax;replace hl:=hl.later ax
 go_loopw [6,7] (fun v i wr=>∃(k:Nat) (acc:List Int),k<=e.sub.length/\i = .int .i64 k/\acc.length=k/\wr.ownsRow W0.heap.size 3 1 v k (acc.map (Value.int .i64))/\Ku acc (Ex.typL l (e.sub.drop k))=Ex.typL l e.sub/\Below W0.heap.size W0 wr) (fun _ i _=>e.sub.length-(intOf i).toNat)
 case atStart=>exact⟨0,[],Nat.zero_le _,rfl,rfl,World.ownsRow_nil _ _ _ _,hT.out,Below.refl _ _⟩
 case round=>
  obtain⟨k,acc,hk,rfl,aR,ae,aa,ab⟩:=hrel;have hc:=Jg ab;have bu:=ab.size;have af:w.heap.size<wr.heap.size:=Ua;have dt:=Lib.hid aR;clear aR
  by_cases am:k<e.sub.length
  ·obtain⟨x,hx,aj,hd⟩:=Kl am;obtain⟨b,off,A',cap',rfl,c0,c1,c2,c3,hs⟩:=(he.later ab).get hx;rw [hd] at aa;have cw:=fun W h=>ih x aj A' cap' W h;unfold exV at cw
   cases ew:((x.typ l).2 != 0)
   ·have h0:(x.typ l).2=0:=Vr;rw [Yl l acc x _ h0] at aa;have HR:=Lib.hid aa;clear aa hd hx h0
    go_wp2_with (first|(go_at_call 160;refine(cw _ (hs.later Jb) (hl.later Jb)).mono ?_;rintro r w1 ⟨rfl,ac⟩;have ⟨ak,af⟩:=aft ac;(try simp at af))|(at_builtin;refine K2 rfl (.tmp 33) (.tmp 35) 77 rfl W0.heap.size 3 (.int .i64 0) 1 8 Tryz.underlying77 Zd rfl Ua u6 k (acc.map (Value.int .i64)) _ 1 [.int .i64 (x.typ l).1] rfl Udk rfl rfl (fun j u hj=>U9) Uv Ua Ua U7 ?_;intro v2 w2 ao aq;have br:=aq.size;(try simp at br)))
    exact Ued
   ·have h0:(x.typ l).2≠0:=Vr;rw [Yk l acc x _ h0] at aa;have hv:e.typ l=(0,(x.typ l).2):=by rw [jQ.out,<-aa]
    clear aa hd hx h0;have HV:=Lib.hid hv;clear hv
    go_wp2_with (first|(go_at_call 160;refine(cw _ (hs.later Jb) (hl.later Jb)).mono ?_;rintro r w1 ⟨rfl,ac⟩;have ak:=Jg ac;have af:=ac.size;(try simp at af)))
    go_ret2
    exact⟨Fj,Jb⟩
  ·exfalso
   obtain rfl:k=e.sub.length:=Ua;rw [List.drop_length,Ex.typL,Ku,if_pos rfl,List.append_nil] at aa;exact HB.out (by rw [<-aa])
theorem Jvo (l:List Va) (A:Option Addr) (cap:Nat) (e:Ex) (ih:∀x∈e.sub,Jcr l A cap x) (Ae:Option Addr) (ce:Nat) (w:World) (he:Jt w e Ae ce) (hl:Ju w l A cap) (h0:e.sub.length=0) (hk:e.kind=1\/e.kind=2) (aL:e.name.toList.isEmpty=true) (hv:e.typ l=(e.kind,0)) :
  Calls Tryz.prog 160 #[exV e Ae ce,.slice A l.length cap] w fun r w'=>r = .returned (.tuple #[.int .i64 (e.typ l).1,.int .i64 (e.typ l).2])/\Below w.heap.size w w':=by
 have hlt0:¬0<e.sub.length:=Ua
 rcases hk with hk|hk
 ·have q1:(e.kind == 1)=true:=Ud;exact T3
 ·have q1:(e.kind == 1)=false:=Ud;have q2:(e.kind == 2)=true:=Ud;exact T3
theorem Jwt (l:List Va) (A:Option Addr) (cap:Nat) (e:Ex) (ih:∀x∈e.sub,Jcr l A cap x) (Ae:Option Addr) (ce:Nat) (w:World) (he:Jt w e Ae ce) (hl:Ju w l A cap) (h3:e.sub.length<=3) (aU:(Ex.typL l e.sub).2=0) (aL:e.name.toList.isEmpty=false) (lc:Qi l e.name=none) (hv:e.typ l=(0,19)) :
  Calls Tryz.prog 160 #[exV e Ae ce,.slice A l.length cap] w fun r w'=>r = .returned (.tuple #[.int .i64 (e.typ l).1,.int .i64 (e.typ l).2])/\Below w.heap.size w w':=by
 have cL:Jp l e.name = -1:=by unfold Jp;rw [lc];rfl
 have ap:=fun W h=>Xa l A cap e.name W (hl.later h);rw [cL] at ap;clear cL lc;have HB:=Lib.hid aU;clear aU;have HV:=Lib.hid hv;clear hv;have ai:=he.len;unfold maxLen at ai;obtain⟨bI,aD⟩:=ai;have hT:=Lib.hid (show Ku [] (Ex.typL l (e.sub.drop 0))=Ex.typL l e.sub from Xq _ (Yb l e.sub));unfold exV
 go_enter Tryz.func160,Tryz.ntmps160
 go_wp2_with fail
 refine Jo fun W0 ag=>?_;have ax:Below w.heap.size w W0:=Uo;have bD:w.heap.size<W0.heap.size:=Us;have p0:W0.cell? ⟨w.heap.size,0,none⟩=some (.int .i64 e.kind):=Uc;have p1:W0.cell? ⟨w.heap.size,1,none⟩=some (.int .i32 e.n):=Uc;have p2:W0.cell? ⟨w.heap.size,2,none⟩=some (.string e.name):=Uc;have p3:W0.cell? ⟨w.heap.size,3,none⟩=some (.slice Ae e.sub.length ce):=Uc;clear ag;replace he:=he.later ax;replace hl:=hl.later ax
 go_loopw [6,7] (fun v i wr=>∃(k:Nat) (acc:List Int),k<=e.sub.length/\i = .int .i64 k/\acc.length=k/\wr.ownsRow W0.heap.size 3 1 v k (acc.map (Value.int .i64))/\Ku acc (Ex.typL l (e.sub.drop k))=Ex.typL l e.sub/\Below W0.heap.size W0 wr) (fun _ i _=>e.sub.length-(intOf i).toNat)
 case atStart=>exact⟨0,[],Nat.zero_le _,rfl,rfl,World.ownsRow_nil _ _ _ _,hT.out,Below.refl _ _⟩
 case round=>
  obtain⟨k,acc,hk,rfl,aR,ae,aa,ab⟩:=hrel;have hc:=Jg ab;have bu:=ab.size;have af:w.heap.size<wr.heap.size:=Ua;have dt:=Lib.hid aR;clear aR
  by_cases am:k<e.sub.length
  ·exact Uel
  ·clear aa ae
   go_wp2_with (first|(go_at_call 49;refine(ap _ Jb).mono ?_;rintro r w1 ⟨rfl,ac⟩;have ⟨ak,af⟩:=aft ac;(try simp at af)))
   go_ret2
   exact⟨Fj,Jb⟩
theorem Kaa (l:List Va) (A:Option Addr) (cap:Nat) (e:Ex) (ih:∀x∈e.sub,Jcr l A cap x) (Ae:Option Addr) (ce:Nat) (w:World) (he:Jt w e Ae ce) (hl:Ju w l A cap) (h0:e.sub.length=0) (hk:e.kind=3) (aL:e.name.toList.isEmpty=false) (kk:Nat) (v:Va) (cL:Jp l e.name=(kk:Int)) (hx:l[kk]?=some v) (hv:e.typ l=Zk v.type) :
  Calls Tryz.prog 160 #[exV e Ae ce,.slice A l.length cap] w fun r w'=>r = .returned (.tuple #[.int .i64 (e.typ l).1,.int .i64 (e.typ l).2])/\Below w.heap.size w w':=by
 have hlt0:¬0<e.sub.length:=Ua;have fR:kk<l.length:=(List.getElem?_eq_some_iff.1 hx).1;have le:(kk:Int)<(l.length:Int):=Ua;have cY:=hl.len;unfold maxLen at cY;obtain⟨fH,fI⟩:=cY;have ap:=fun W h=>Xa l A cap e.name W (hl.later h);rw [cL] at ap;have eb:=hl;obtain⟨bv,ov,rfl,dB,⟨v0,v1,v2,v3⟩⟩:=hl.get hx;have du:bv<w.heap.size:=dB;have tkk:¬((kk:Int)<0):=Ua;clear cL hx eb;have q1:(e.kind == 1)=false:=Ud;have q2:(e.kind == 2)=false:=Ud;have q3:(e.kind == 3)=true:=Ud;clear hk h0;unfold Zk at hv
 by_cases ht:v.type=1\/v.type=2
 ·rw [if_pos ht] at hv;have HV:=Lib.hid hv;clear hv;have ai:=he.len;unfold maxLen at ai;obtain⟨bI,aD⟩:=ai;have hT:=Lib.hid (show Ku [] (Ex.typL l (e.sub.drop 0))=Ex.typL l e.sub from Xq _ (Yb l e.sub));unfold exV
  go_enter Tryz.func160,Tryz.ntmps160
  go_wp2_with fail
  refine Jo fun W0 ag=>?_;have ax:Below w.heap.size w W0:=Uo;have bD:w.heap.size<W0.heap.size:=Us;have p0:W0.cell? ⟨w.heap.size,0,none⟩=some (.int .i64 e.kind):=Uc;have p1:W0.cell? ⟨w.heap.size,1,none⟩=some (.int .i32 e.n):=Uc;have p2:W0.cell? ⟨w.heap.size,2,none⟩=some (.string e.name):=Uc;have p3:W0.cell? ⟨w.heap.size,3,none⟩=some (.slice Ae e.sub.length ce):=Uc;clear ag;replace he:=he.later ax;replace hl:=hl.later ax
  go_loopw [6,7] (fun v i wr=>∃(k:Nat) (acc:List Int),k<=e.sub.length/\i = .int .i64 k/\acc.length=k/\wr.ownsRow W0.heap.size 3 1 v k (acc.map (Value.int .i64))/\Ku acc (Ex.typL l (e.sub.drop k))=Ex.typL l e.sub/\Below W0.heap.size W0 wr) (fun _ i _=>e.sub.length-(intOf i).toNat)
  case atStart=>exact⟨0,[],Nat.zero_le _,rfl,rfl,World.ownsRow_nil _ _ _ _,hT.out,Below.refl _ _⟩
  case round=>
   obtain⟨k,acc,hk,rfl,aR,ae,aa,ab⟩:=hrel;have hc:=Jg ab;have bu:=ab.size;have af:w.heap.size<wr.heap.size:=Ua;have dt:=Lib.hid aR;clear aR;have am:¬k<e.sub.length:=Ua;have iP:k=e.sub.length:=Ua;have HK:=Lib.hid iP;clear iP aa ae;have aC:Below w.heap.size w wr:=Jd ax ab;have fA:=Jg aC;have mE:bv<wr.heap.size:=Ua;have ll:bv<wr.heap.size+1:=Ua;have qF:w.heap.size<wr.heap.size+1:=Ua;have v0':=(fA _ _ du).trans v0;have v1':=(fA _ _ du).trans v1;have v2':=(fA _ _ du).trans v2;have v3':=(fA _ _ du).trans v3;clear fA v0 v1 v2 v3
   rcases ht with ht|ht
   ·have t1:(v.type != 1)=false:=by rw [ht];rfl
    exact Uev
   ·have t1:(v.type != 1)=true:=by rw [ht];rfl
    have t2:(v.type != 2)=false:=by rw [ht];rfl
    exact Uev
 ·rw [if_neg ht] at hv;have HV:=Lib.hid hv;clear hv;have t1:(v.type != 1)=true:=Uj;have t2:(v.type != 2)=true:=Uj;clear ht;have ai:=he.len;unfold maxLen at ai;obtain⟨bI,aD⟩:=ai;have hT:=Lib.hid (show Ku [] (Ex.typL l (e.sub.drop 0))=Ex.typL l e.sub from Xq _ (Yb l e.sub));unfold exV
  go_enter Tryz.func160,Tryz.ntmps160
  go_wp2_with fail
  refine Jo fun W0 ag=>?_;have ax:Below w.heap.size w W0:=Uo;have bD:w.heap.size<W0.heap.size:=Us;have p0:W0.cell? ⟨w.heap.size,0,none⟩=some (.int .i64 e.kind):=Uc;have p1:W0.cell? ⟨w.heap.size,1,none⟩=some (.int .i32 e.n):=Uc;have p2:W0.cell? ⟨w.heap.size,2,none⟩=some (.string e.name):=Uc;have p3:W0.cell? ⟨w.heap.size,3,none⟩=some (.slice Ae e.sub.length ce):=Uc;clear ag;replace he:=he.later ax;replace hl:=hl.later ax
  go_loopw [6,7] (fun v i wr=>∃(k:Nat) (acc:List Int),k<=e.sub.length/\i = .int .i64 k/\acc.length=k/\wr.ownsRow W0.heap.size 3 1 v k (acc.map (Value.int .i64))/\Ku acc (Ex.typL l (e.sub.drop k))=Ex.typL l e.sub/\Below W0.heap.size W0 wr) (fun _ i _=>e.sub.length-(intOf i).toNat)
  case atStart=>exact⟨0,[],Nat.zero_le _,rfl,rfl,World.ownsRow_nil _ _ _ _,hT.out,Below.refl _ _⟩
  case round=>
   obtain⟨k,acc,hk,rfl,aR,ae,aa,ab⟩:=hrel;have hc:=Jg ab;have bu:=ab.size;have af:w.heap.size<wr.heap.size:=Ua;have dt:=Lib.hid aR;clear aR;have am:¬k<e.sub.length:=Ua;have iP:k=e.sub.length:=Ua;have HK:=Lib.hid iP;clear iP aa ae;have aC:Below w.heap.size w wr:=Jd ax ab;have fA:=Jg aC;have mE:bv<wr.heap.size:=Ua;have ll:bv<wr.heap.size+1:=Ua;have qF:w.heap.size<wr.heap.size+1:=Ua;have v0':=(fA _ _ du).trans v0;have v1':=(fA _ _ du).trans v1;have v2':=(fA _ _ du).trans v2;have v3':=(fA _ _ du).trans v3;clear fA v0 v1 v2 v3
   go_wp2_with (first|(go_at_call 49;go_loud (refine(ap _ Jb).mono ?_;rintro r w1 ⟨rfl,ac⟩;have ak:=Jg ac;have db:=Jf ac;have eq:=ac.size;(try simp at eq);have ge:bv<w1.heap.size:=Ua;(try have gf:g<w1.heap.size:=Ua))))
   go_ret2
   exact⟨Fj,Udl⟩
end Go.Proofs.YtknfcamdfdfoeaaGreatDoor
