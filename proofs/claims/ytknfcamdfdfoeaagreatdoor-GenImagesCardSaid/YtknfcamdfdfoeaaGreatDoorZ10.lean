/- Lemmas. -/
import Derived.Test.YtknfcamdfdfoeaaGreatDoorMac
import Derived.Test.YtknfcamdfdfoeaaGreatDoorRows
import Derived.Test.YtknfcamdfdfoeaaGreatDoorZ00
import Derived.Test.YtknfcamdfdfoeaaGreatDoorZ08
import Derived.Test.YtknfcamdfdfoeaaGreatDoorZ02
import Derived.IntWalk
import Derived.Test.YtknfcamdfdfoeaaGreatDoorZ03
import Derived.Test.YtknfcamdfdfoeaaGreatDoorZ06
set_option linter.unusedVariables false
set_option linter.unusedSimpArgs false
set_option maxRecDepth 100000
set_option maxHeartbeats 64000000
namespace Go.Proofs.YtknfcamdfdfoeaaGreatDoor
open Go.RowKit Go.Sort
theorem Yp (a b:Int) (w:World):Calls Tryz.prog 174 #[.int .i64 a,.int .i64 b] w fun r w'=>r = .returned (.int .i64 (Y1 a b))/\w=w':=by
 by_cases h:a=b
 ·have hv:Y1 a b=a:=by unfold Y1;rw [if_pos h]
  have t:(a == b)=true:=Ve;exact Ub7
 ·have hv:Y1 a b=0:=by unfold Y1;rw [if_neg h]
  have t:(a == b)=false:=Ve;exact Ub7
theorem Jj3 (op t:Int) (w:World):Calls Tryz.prog 173 #[.int .i64 op,.int .i64 t] w fun r w'=>r = .returned (.int .i64 (Jbw op t))/\w=w':=by
 have hv:Jbw op t=Jbw op t:=rfl;rw (occs:= .pos [2]) [Jbw] at hv
 by_cases h0:t=0
 ·rw [if_pos h0] at hv;have t0:(t == 0)=true:=Mr;clear h0;exact Ucb
 rw [if_neg h0] at hv;have t0:(t == 0)=false:=Mr
 by_cases h8:8<=op
 ·by_cases bM:op<=10
  ·rw [if_pos ⟨h8,bM⟩] at hv;have d8:decide (8<=op)=true:=Dp;have d10:decide (op<=10)=true:=Fb;exact Ucb
  rw [if_neg Ua] at hv;have d8:decide (8<=op)=true:=Dp;have d10:decide (op<=10)=false:=Fb
  by_cases gh:op=11\/op=12
  ·rw [if_pos gh] at hv
   rcases gh with gh|gh
   ·have e1:(op == 11)=true:=Sy;exact Ub2
   ·have e1:(op == 11)=false:=by rw [gh];rfl
    have e2:(op == 12)=true:=Sy;exact Ub2
  rw [if_neg gh] at hv;have e1:(op == 11)=false:=Uj;have e2:(op == 12)=false:=Uj
  by_cases h1:t≠1
  ·exact Ubn
  rw [if_neg h1,if_neg Ua] at hv;have t1:(t != 1)=false:=Lw;have d7:decide (op<=7)=false:=Uj;exact Ub3
 ·rw [if_neg Ua,if_neg Ua] at hv;have d8:decide (8<=op)=false:=Dp;have e1:(op == 11)=false:=Uj;have e2:(op == 12)=false:=Uj
  by_cases h1:t≠1
  ·exact Ubn
  rw [if_neg h1,if_pos Ua] at hv;have t1:(t != 1)=false:=Lw;have d7:decide (op<=7)=true:=Uj;exact Ub3
def Jcr (l:List Va) (A:Option Addr) (cap:Nat) (x:Ex):Prop:=∀(A':Option Addr) (c':Nat) (W:World),Jt W x A' c'->Ju W l A cap->
  Calls Tryz.prog 160 #[exV x A' c',.slice A l.length cap] W fun r w'=>r = .returned (.tuple #[.int .i64 (x.typ l).1,.int .i64 (x.typ l).2])/\Below W.heap.size W w'
theorem Jy0 (l:List Va) (A:Option Addr) (cap:Nat) (e:Ex) (ih:∀x∈e.sub,Jcr l A cap x) (Ae:Option Addr) (ce:Nat) (w:World) (he:Jt w e Ae ce) (hl:Ju w l A cap) (h3:e.sub.length<=3) (fK:(Ex.typL l e.sub).2≠0) :
  Calls Tryz.prog 160 #[exV e Ae ce,.slice A l.length cap] w fun r w'=>r = .returned (.tuple #[.int .i64 (e.typ l).1,.int .i64 (e.typ l).2])/\Below w.heap.size w w':=by
 have hv:e.typ l=(0,(Ex.typL l e.sub).2):=by rw [Ex.typ_eq,if_neg fK]
 have jQ:=Nf hv;clear hv;have HB:=Nf fK;clear fK;have ai:=he.len;unfold maxLen at ai;obtain⟨bI,aD⟩:=ai;have hT:=Nf (show Ku [] (Ex.typL l (e.sub.drop 0))=Ex.typL l e.sub from Xq _ (Yb l e.sub));unfold exV
 go_enter Tryz.func160,Tryz.ntmps160
 go_wp2_with fail
 refine Jo fun W0 ag=>?_;have ax:=Nd w W0 Uo;have bD:w.heap.size<W0.heap.size:=Us;have p0:=Na W0 w.heap.size 0 e.kind Uc;have p1:=Nb W0 w.heap.size 1 (.int .i32 e.n) Uc;have p2:=Nb W0 w.heap.size 2 (.string e.name) Uc;have p3:=Nb W0 w.heap.size 3 (.slice Ae e.sub.length ce) Uc;clear ag;replace he:=he.later ax;replace hl:=hl.later ax
 go_loopw [6,7] (fun v i wr=>∃(k:Nat) (acc:List Int),k<=e.sub.length/\i = .int .i64 k/\acc.length=k/\wr.ownsRow W0.heap.size 3 1 v k (acc.map (Value.int .i64))/\Ku acc (Ex.typL l (e.sub.drop k))=Ex.typL l e.sub/\Below W0.heap.size W0 wr) (fun _ i _=>e.sub.length-(intOf i).toNat)
 case atStart=>exact⟨0,[],Np,rfl,rfl,Nw,hT.out,Nt⟩
 case round=>
  obtain⟨k,acc,hk,rfl,aR,ae,aa,ab⟩:=hrel;have hc:=Jg ab;have bu:=ab.size;have af:=lt0 w wr;have dt:=Nf aR;clear aR
  by_cases am:k<e.sub.length
  ·obtain⟨x,hx,aj,hd⟩:=Kl am;obtain⟨b,off,A',cap',rfl,c0,c1,c2,c3,hs⟩:=(he.later ab).get hx;rw [hd] at aa;have cw:=fun W h=>ih x aj A' cap' W h;unfold exV at cw
   cases ew:((x.typ l).2 != 0)
   ·have h0:(x.typ l).2=0:=Vr;rw [Yl l acc x _ h0] at aa;have HR:=Nf aa;clear aa hd hx h0
    go_wp2_with (first|(go_at_call 160;refine(cw _ (hs.later Jb) (hl.later Jb)).mono ?_;rintro r w1 ⟨rfl,ac⟩;have ⟨ak,af⟩:=aft ac;(try simp at af))|(at_builtin;refine Kap rfl (.tmp 33) (.tmp 35) 77 rfl W0.heap.size 3 (.int .i64 0) 1 8 Tryz.underlying77 Zd rfl Ua u6 k (acc.map (Value.int .i64)) _ 1 [.int .i64 (x.typ l).1] rfl Udk rfl rfl (fun j u hj=>U9) Uv Ua Ua U7 ?_;intro v2 w2 ao aq;have br:=aq.size;(try simp at br)))
    exact Ued
   ·have h0:(x.typ l).2≠0:=Vr;rw [Yk l acc x _ h0] at aa;have hv:e.typ l=(0,(x.typ l).2):=by rw [jQ.out,<-aa]
    clear aa hd hx h0;have HV:=Nf hv;clear hv
    go_wp2_with (first|(go_at_call 160;refine(cw _ (hs.later Jb) (hl.later Jb)).mono ?_;rintro r w1 ⟨rfl,ac⟩;have ak:=Jg ac;have af:=ac.size;(try simp at af)))
    go_ret2
    exact⟨Fj,Jb⟩
  ·exfalso
   obtain rfl:k=e.sub.length:=Ua;rw [Nn,Ex.typL,Ku,if_pos rfl,List.append_nil] at aa;exact HB.out (by rw [<-aa])
theorem Jvo (l:List Va) (A:Option Addr) (cap:Nat) (e:Ex) (ih:∀x∈e.sub,Jcr l A cap x) (Ae:Option Addr) (ce:Nat) (w:World) (he:Jt w e Ae ce) (hl:Ju w l A cap) (h0:e.sub.length=0) (hk:e.kind=1\/e.kind=2) (aL:e.name.toList.isEmpty=true) (hv:e.typ l=(e.kind,0)) :
  Calls Tryz.prog 160 #[exV e Ae ce,.slice A l.length cap] w fun r w'=>r = .returned (.tuple #[.int .i64 (e.typ l).1,.int .i64 (e.typ l).2])/\Below w.heap.size w w':=by
 have hlt0:¬0<e.sub.length:=Ua
 rcases hk with hk|hk
 ·have q1:(e.kind == 1)=true:=Ud;exact T3
 ·have q1:(e.kind == 1)=false:=Ud;have q2:(e.kind == 2)=true:=Ud;exact T3
theorem Jwt (l:List Va) (A:Option Addr) (cap:Nat) (e:Ex) (ih:∀x∈e.sub,Jcr l A cap x) (Ae:Option Addr) (ce:Nat) (w:World) (he:Jt w e Ae ce) (hl:Ju w l A cap) (h3:e.sub.length<=3) (aU:(Ex.typL l e.sub).2=0) (aL:e.name.toList.isEmpty=false) (lc:Qi l e.name=none) (hv:e.typ l=(0,19)) :
  Calls Tryz.prog 160 #[exV e Ae ce,.slice A l.length cap] w fun r w'=>r = .returned (.tuple #[.int .i64 (e.typ l).1,.int .i64 (e.typ l).2])/\Below w.heap.size w w':=by
 have cL:Jp l e.name = -1:=by unfold Jp;rw [lc];rfl
 have ap:=fun W h=>Xa l A cap e.name W (hl.later h);rw [cL] at ap;clear cL lc;have HB:=Nf aU;clear aU;have HV:=Nf hv;clear hv;have ai:=he.len;unfold maxLen at ai;obtain⟨bI,aD⟩:=ai;have hT:=Nf (show Ku [] (Ex.typL l (e.sub.drop 0))=Ex.typL l e.sub from Xq _ (Yb l e.sub));unfold exV
 go_enter Tryz.func160,Tryz.ntmps160
 go_wp2_with fail
 refine Jo fun W0 ag=>?_;have ax:=Nd w W0 Uo;have bD:w.heap.size<W0.heap.size:=Us;have p0:=Na W0 w.heap.size 0 e.kind Uc;have p1:=Nb W0 w.heap.size 1 (.int .i32 e.n) Uc;have p2:=Nb W0 w.heap.size 2 (.string e.name) Uc;have p3:=Nb W0 w.heap.size 3 (.slice Ae e.sub.length ce) Uc;clear ag;replace he:=he.later ax;replace hl:=hl.later ax
 go_loopw [6,7] (fun v i wr=>∃(k:Nat) (acc:List Int),k<=e.sub.length/\i = .int .i64 k/\acc.length=k/\wr.ownsRow W0.heap.size 3 1 v k (acc.map (Value.int .i64))/\Ku acc (Ex.typL l (e.sub.drop k))=Ex.typL l e.sub/\Below W0.heap.size W0 wr) (fun _ i _=>e.sub.length-(intOf i).toNat)
 case atStart=>exact⟨0,[],Np,rfl,rfl,Nw,hT.out,Nt⟩
 case round=>
  obtain⟨k,acc,hk,rfl,aR,ae,aa,ab⟩:=hrel;have hc:=Jg ab;have bu:=ab.size;have af:=lt0 w wr;have dt:=Nf aR;clear aR
  by_cases am:k<e.sub.length
  ·exact Uat
  ·clear aa ae
   go_wp2_with (first|(go_at_call 49;refine mo (ap _ Jb) fun w1 ac ak af bV=>?_;(try simp at af)))
   go_ret2
   exact⟨Fj,Jb⟩
theorem Kaa (l:List Va) (A:Option Addr) (cap:Nat) (e:Ex) (ih:∀x∈e.sub,Jcr l A cap x) (Ae:Option Addr) (ce:Nat) (w:World) (he:Jt w e Ae ce) (hl:Ju w l A cap) (h0:e.sub.length=0) (hk:e.kind=3) (aL:e.name.toList.isEmpty=false) (kk:Nat) (v:Va) (cL:Jp l e.name=(kk:Int)) (hx:l[kk]?=some v) (hv:e.typ l=Zk v.type) :
  Calls Tryz.prog 160 #[exV e Ae ce,.slice A l.length cap] w fun r w'=>r = .returned (.tuple #[.int .i64 (e.typ l).1,.int .i64 (e.typ l).2])/\Below w.heap.size w w':=by
 have hlt0:¬0<e.sub.length:=Ua;have fR:kk<l.length:=(Nh hx).1;have le:(kk:Int)<(l.length:Int):=Ua;have cY:=hl.len;unfold maxLen at cY;obtain⟨fH,fI⟩:=cY;have ap:=fun W h=>Xa l A cap e.name W (hl.later h);rw [cL] at ap;have eb:=hl;obtain⟨bv,ov,rfl,dB,⟨v0,v1,v2,v3⟩⟩:=hl.get hx;have du:bv<w.heap.size:=dB;have tkk:¬((kk:Int)<0):=Ua;clear cL hx eb;have q1:(e.kind == 1)=false:=Ud;have q2:(e.kind == 2)=false:=Ud;have q3:(e.kind == 3)=true:=Ud;clear hk h0;unfold Zk at hv
 by_cases ht:v.type=1\/v.type=2
 ·rw [if_pos ht] at hv;have HV:=Nf hv;clear hv;have ai:=he.len;unfold maxLen at ai;obtain⟨bI,aD⟩:=ai;have hT:=Nf (show Ku [] (Ex.typL l (e.sub.drop 0))=Ex.typL l e.sub from Xq _ (Yb l e.sub));unfold exV
  go_enter Tryz.func160,Tryz.ntmps160
  go_wp2_with fail
  refine Jo fun W0 ag=>?_;have ax:=Nd w W0 Uo;have bD:w.heap.size<W0.heap.size:=Us;have p0:=Na W0 w.heap.size 0 e.kind Uc;have p1:=Nb W0 w.heap.size 1 (.int .i32 e.n) Uc;have p2:=Nb W0 w.heap.size 2 (.string e.name) Uc;have p3:=Nb W0 w.heap.size 3 (.slice Ae e.sub.length ce) Uc;clear ag;replace he:=he.later ax;replace hl:=hl.later ax
  go_loopw [6,7] (fun v i wr=>∃(k:Nat) (acc:List Int),k<=e.sub.length/\i = .int .i64 k/\acc.length=k/\wr.ownsRow W0.heap.size 3 1 v k (acc.map (Value.int .i64))/\Ku acc (Ex.typL l (e.sub.drop k))=Ex.typL l e.sub/\Below W0.heap.size W0 wr) (fun _ i _=>e.sub.length-(intOf i).toNat)
  case atStart=>exact⟨0,[],Np,rfl,rfl,Nw,hT.out,Nt⟩
  case round=>
   obtain⟨k,acc,hk,rfl,aR,ae,aa,ab⟩:=hrel;have hc:=Jg ab;have bu:=ab.size;have af:=lt0 w wr;have dt:=Nf aR;clear aR;have am:¬k<e.sub.length:=Ua;have iP:k=e.sub.length:=Ua;have HK:=Nf iP;clear iP aa ae;have aC:=Nd w wr (Jd ax ab);have fA:=Jg aC;have mE:bv<wr.heap.size:=Ua;have ll:bv<wr.heap.size+1:=Ua;have qF:w.heap.size<wr.heap.size+1:=Ua;have v0':=(fA _ _ du).trans v0;have v1':=(fA _ _ du).trans v1;have v2':=(fA _ _ du).trans v2;have v3':=(fA _ _ du).trans v3;clear fA v0 v1 v2 v3
   rcases ht with ht|ht
   ·have t1:(v.type != 1)=false:=by rw [ht];rfl
    exact Uev
   ·have t1:(v.type != 1)=true:=by rw [ht];rfl
    have t2:(v.type != 2)=false:=by rw [ht];rfl
    exact Uev
 ·rw [if_neg ht] at hv;have HV:=Nf hv;clear hv;have t1:(v.type != 1)=true:=Uj;have t2:(v.type != 2)=true:=Uj;clear ht;have ai:=he.len;unfold maxLen at ai;obtain⟨bI,aD⟩:=ai;have hT:=Nf (show Ku [] (Ex.typL l (e.sub.drop 0))=Ex.typL l e.sub from Xq _ (Yb l e.sub));unfold exV
  go_enter Tryz.func160,Tryz.ntmps160
  go_wp2_with fail
  refine Jo fun W0 ag=>?_;have ax:=Nd w W0 Uo;have bD:w.heap.size<W0.heap.size:=Us;have p0:=Na W0 w.heap.size 0 e.kind Uc;have p1:=Nb W0 w.heap.size 1 (.int .i32 e.n) Uc;have p2:=Nb W0 w.heap.size 2 (.string e.name) Uc;have p3:=Nb W0 w.heap.size 3 (.slice Ae e.sub.length ce) Uc;clear ag;replace he:=he.later ax;replace hl:=hl.later ax
  go_loopw [6,7] (fun v i wr=>∃(k:Nat) (acc:List Int),k<=e.sub.length/\i = .int .i64 k/\acc.length=k/\wr.ownsRow W0.heap.size 3 1 v k (acc.map (Value.int .i64))/\Ku acc (Ex.typL l (e.sub.drop k))=Ex.typL l e.sub/\Below W0.heap.size W0 wr) (fun _ i _=>e.sub.length-(intOf i).toNat)
  case atStart=>exact⟨0,[],Np,rfl,rfl,Nw,hT.out,Nt⟩
  case round=>
   obtain⟨k,acc,hk,rfl,aR,ae,aa,ab⟩:=hrel;have hc:=Jg ab;have bu:=ab.size;have af:=lt0 w wr;have dt:=Nf aR;clear aR;have am:¬k<e.sub.length:=Ua;have iP:k=e.sub.length:=Ua;have HK:=Nf iP;clear iP aa ae;have aC:=Nd w wr (Jd ax ab);have fA:=Jg aC;have mE:bv<wr.heap.size:=Ua;have ll:bv<wr.heap.size+1:=Ua;have qF:w.heap.size<wr.heap.size+1:=Ua;have v0':=(fA _ _ du).trans v0;have v1':=(fA _ _ du).trans v1;have v2':=(fA _ _ du).trans v2;have v3':=(fA _ _ du).trans v3;clear fA v0 v1 v2 v3
   go_wp2_with (first|(go_at_call 49;go_loud (refine(ap _ Jb).mono ?_;rintro r w1 ⟨rfl,ac⟩;have ak:=Jg ac;have db:=Jf ac;have eq:=ac.size;(try simp at eq);have ge:bv<w1.heap.size:=Ua;(try have gf:g<w1.heap.size:=Ua))))
   go_ret2
   exact⟨Fj,Udl⟩
theorem Jzy (l:List Va) (A:Option Addr) (cap:Nat) (e:Ex) (ih:∀x∈e.sub,Jcr l A cap x) (Ae:Option Addr) (ce:Nat) (w:World) (he:Jt w e Ae ce) (hl:Ju w l A cap) (h3:e.sub.length<=3) (hk:e.kind=4) (aL:e.name.toList.isEmpty=true) (t0:Int) (aU:Ex.typL l e.sub=([t0],0)) (h1:e.sub.length=1) (fQ:t0=1\/t0=2) (eP:e.n=1\/e.n=2) (hv:e.typ l=if e.n=t0 then(t0,0) else(0,20)) :
  Calls Tryz.prog 160 #[exV e Ae ce,.slice A l.length cap] w fun r w'=>r = .returned (.tuple #[.int .i64 (e.typ l).1,.int .i64 (e.typ l).2])/\Below w.heap.size w w':=by
 have q1:(e.kind == 1)=false:=Ud;have q2:(e.kind == 2)=false:=Ud;have q3:(e.kind == 3)=false:=Ud;have q4:(e.kind == 4)=true:=Ud;have dM:(Ex.typL l e.sub).2=0:=L2;have HB:=Nf dM;clear dM;have gn:=Nf aU;clear aU;have H1:=Nf h1;clear h1;clear hk;have HV:=Nf hv;clear hv;have ai:=he.len;unfold maxLen at ai;obtain⟨bI,aD⟩:=ai;have hT:=Nf (show Ku [] (Ex.typL l (e.sub.drop 0))=Ex.typL l e.sub from Xq _ (Yb l e.sub));unfold exV
 go_enter Tryz.func160,Tryz.ntmps160
 go_wp2_with fail
 refine Jo fun W0 ag=>?_;have ax:=Nd w W0 Uo;have bD:w.heap.size<W0.heap.size:=Us;have p0:=Na W0 w.heap.size 0 e.kind Uc;have p1:=Nb W0 w.heap.size 1 (.int .i32 e.n) Uc;have p2:=Nb W0 w.heap.size 2 (.string e.name) Uc;have p3:=Nb W0 w.heap.size 3 (.slice Ae e.sub.length ce) Uc;clear ag;replace he:=he.later ax;replace hl:=hl.later ax
 go_loopw [6,7] (fun v i wr=>∃(k:Nat) (acc:List Int),k<=e.sub.length/\i = .int .i64 k/\acc.length=k/\wr.ownsRow W0.heap.size 3 1 v k (acc.map (Value.int .i64))/\Ku acc (Ex.typL l (e.sub.drop k))=Ex.typL l e.sub/\Below W0.heap.size W0 wr) (fun _ i _=>e.sub.length-(intOf i).toNat)
 case atStart=>exact⟨0,[],Np,rfl,rfl,Nw,hT.out,Nt⟩
 case round=>
  obtain⟨k,acc,hk,rfl,aR,ae,aa,ab⟩:=hrel;have hc:=Jg ab;have bu:=ab.size;have af:=lt0 w wr;have dt:=Nf aR;clear aR
  by_cases am:k<e.sub.length
  ·exact Uat
  ·have bk:k=e.sub.length:=Ua;rw [bk,Nn,Ex.typL,Ku,if_pos rfl,List.append_nil,gn.out] at aa;have aR:acc = [t0]:=Dh;subst aR;have cD:k=1:=Fm;have HK:=Nf bk;clear aa bk;rw [cD] at ae;obtain⟨g,gc,rfl,eN,aG,bJ,cg,ah⟩:=Kc ae Ua;unfold maxLen at cg;have e0:=Na wr g 0 t0 (ah 0 _ rfl);clear ah ae cD
   rcases fQ with rfl|rfl <;> rcases eP with eP|eP
   ·have s1:(e.n == 1)=true:=D4;have s2:(e.n == 2)=false:=D4;exact Uey
   ·have s1:(e.n == 1)=false:=D4;have s2:(e.n == 2)=true:=D4;exact Uez
   ·have s1:(e.n == 1)=true:=D4;have s2:(e.n == 2)=false:=D4;exact Uez
   ·have s1:(e.n == 1)=false:=D4;have s2:(e.n == 2)=true:=D4;exact Uey
theorem Kad (l:List Va) (A:Option Addr) (cap:Nat) (e:Ex) (ih:∀x∈e.sub,Jcr l A cap x) (Ae:Option Addr) (ce:Nat) (w:World) (he:Jt w e Ae ce) (hl:Ju w l A cap) (h3:e.sub.length<=3) (hk:e.kind=8) (aL:e.name.toList.isEmpty=false) (kk:Nat) (v:Va) (cL:Jp l e.name=(kk:Int)) (hx:l[kk]?=some v) (t0:Int) (aU:Ex.typL l e.sub=([t0],0)) (h1:e.sub.length=1) (fQ:t0=1\/t0=2) (hv:e.typ l=if v.type=2 then(t0,0) else(0,20)) :
  Calls Tryz.prog 160 #[exV e Ae ce,.slice A l.length cap] w fun r w'=>r = .returned (.tuple #[.int .i64 (e.typ l).1,.int .i64 (e.typ l).2])/\Below w.heap.size w w':=by
 have fR:kk<l.length:=(Nh hx).1;have le:(kk:Int)<(l.length:Int):=Ua;have cY:=hl.len;unfold maxLen at cY;obtain⟨fH,fI⟩:=cY;have ap:=fun W h=>Xa l A cap e.name W (hl.later h);rw [cL] at ap;have eb:=hl;obtain⟨bv,ov,rfl,dB,⟨v0,v1,v2,v3⟩⟩:=hl.get hx;have du:bv<w.heap.size:=dB;have tkk:¬((kk:Int)<0):=Ua;clear cL hx eb;have q1:(e.kind == 1)=false:=Ud;have q2:(e.kind == 2)=false:=Ud;have q3:(e.kind == 3)=false:=Ud;have q4:(e.kind == 4)=false:=Ud;have q5:(e.kind == 5)=false:=Ud;have q6:(e.kind == 6)=false:=Ud;have q7:(e.kind == 7)=false:=Ud;have q8:(e.kind == 8)=true:=Ud;have dM:(Ex.typL l e.sub).2=0:=L2;have HB:=Nf dM;clear dM;have gn:=Nf aU;clear aU;have H1:=Nf h1;clear h1;clear hk;have HV:=Nf hv;clear hv;have ai:=he.len;unfold maxLen at ai;obtain⟨bI,aD⟩:=ai;have hT:=Nf (show Ku [] (Ex.typL l (e.sub.drop 0))=Ex.typL l e.sub from Xq _ (Yb l e.sub));unfold exV
 go_enter Tryz.func160,Tryz.ntmps160
 go_wp2_with fail
 refine Jo fun W0 ag=>?_;have ax:=Nd w W0 Uo;have bD:w.heap.size<W0.heap.size:=Us;have p0:=Na W0 w.heap.size 0 e.kind Uc;have p1:=Nb W0 w.heap.size 1 (.int .i32 e.n) Uc;have p2:=Nb W0 w.heap.size 2 (.string e.name) Uc;have p3:=Nb W0 w.heap.size 3 (.slice Ae e.sub.length ce) Uc;clear ag;replace he:=he.later ax;replace hl:=hl.later ax
 go_loopw [6,7] (fun v i wr=>∃(k:Nat) (acc:List Int),k<=e.sub.length/\i = .int .i64 k/\acc.length=k/\wr.ownsRow W0.heap.size 3 1 v k (acc.map (Value.int .i64))/\Ku acc (Ex.typL l (e.sub.drop k))=Ex.typL l e.sub/\Below W0.heap.size W0 wr) (fun _ i _=>e.sub.length-(intOf i).toNat)
 case atStart=>exact⟨0,[],Np,rfl,rfl,Nw,hT.out,Nt⟩
 case round=>
  exact Br
theorem Kah (l:List Va) (A:Option Addr) (cap:Nat) (e:Ex) (ih:∀x∈e.sub,Jcr l A cap x) (Ae:Option Addr) (ce:Nat) (w:World) (he:Jt w e Ae ce) (hl:Ju w l A cap) (h3:e.sub.length<=3) (hk:e.kind=9) (aL:e.name.toList.isEmpty=false) (kk:Nat) (v:Va) (cL:Jp l e.name=(kk:Int)) (hx:l[kk]?=some v) (t0:Int) (aU:Ex.typL l e.sub=([t0],0)) (h1:e.sub.length=1) (fQ:t0=1\/t0=2) (hv:e.typ l=if v.type=2 then(t0,0) else(0,20)) :
  Calls Tryz.prog 160 #[exV e Ae ce,.slice A l.length cap] w fun r w'=>r = .returned (.tuple #[.int .i64 (e.typ l).1,.int .i64 (e.typ l).2])/\Below w.heap.size w w':=by
 have fR:kk<l.length:=(Nh hx).1;have le:(kk:Int)<(l.length:Int):=Ua;have cY:=hl.len;unfold maxLen at cY;obtain⟨fH,fI⟩:=cY;have ap:=fun W h=>Xa l A cap e.name W (hl.later h);rw [cL] at ap;have eb:=hl;obtain⟨bv,ov,rfl,dB,⟨v0,v1,v2,v3⟩⟩:=hl.get hx;have du:bv<w.heap.size:=dB;have tkk:¬((kk:Int)<0):=Ua;clear cL hx eb;have q1:(e.kind == 1)=false:=Ud;have q2:(e.kind == 2)=false:=Ud;have q3:(e.kind == 3)=false:=Ud;have q4:(e.kind == 4)=false:=Ud;have q5:(e.kind == 5)=false:=Ud;have q6:(e.kind == 6)=false:=Ud;have q7:(e.kind == 7)=false:=Ud;have q8:(e.kind == 8)=false:=Ud;have q9:(e.kind == 9)=true:=Ud;have dM:(Ex.typL l e.sub).2=0:=L2;have HB:=Nf dM;clear dM;have gn:=Nf aU;clear aU;have H1:=Nf h1;clear h1;clear hk;have HV:=Nf hv;clear hv;have ai:=he.len;unfold maxLen at ai;obtain⟨bI,aD⟩:=ai;have hT:=Nf (show Ku [] (Ex.typL l (e.sub.drop 0))=Ex.typL l e.sub from Xq _ (Yb l e.sub));unfold exV
 go_enter Tryz.func160,Tryz.ntmps160
 go_wp2_with fail
 refine Jo fun W0 ag=>?_;have ax:=Nd w W0 Uo;have bD:w.heap.size<W0.heap.size:=Us;have p0:=Na W0 w.heap.size 0 e.kind Uc;have p1:=Nb W0 w.heap.size 1 (.int .i32 e.n) Uc;have p2:=Nb W0 w.heap.size 2 (.string e.name) Uc;have p3:=Nb W0 w.heap.size 3 (.slice Ae e.sub.length ce) Uc;clear ag;replace he:=he.later ax;replace hl:=hl.later ax
 go_loopw [6,7] (fun v i wr=>∃(k:Nat) (acc:List Int),k<=e.sub.length/\i = .int .i64 k/\acc.length=k/\wr.ownsRow W0.heap.size 3 1 v k (acc.map (Value.int .i64))/\Ku acc (Ex.typL l (e.sub.drop k))=Ex.typL l e.sub/\Below W0.heap.size W0 wr) (fun _ i _=>e.sub.length-(intOf i).toNat)
 case atStart=>exact⟨0,[],Np,rfl,rfl,Nw,hT.out,Nt⟩
 case round=>
  exact Br
theorem Jzw (l:List Va) (A:Option Addr) (cap:Nat) (e:Ex) (ih:∀x∈e.sub,Jcr l A cap x) (Ae:Option Addr) (ce:Nat) (w:World) (he:Jt w e Ae ce) (hl:Ju w l A cap) (h3:e.sub.length<=3) (hk:e.kind=7) (aL:e.name.toList.isEmpty=true) (t0 t1:Int) (aU:Ex.typL l e.sub=([t0,t1],0)) (h1:e.sub.length=2) (fQ:t0=1\/t0=2) (gJ:t1=1\/t1=2) (hv:e.typ l=if t0=t1 then(t0,0) else(0,20)) :
  Calls Tryz.prog 160 #[exV e Ae ce,.slice A l.length cap] w fun r w'=>r = .returned (.tuple #[.int .i64 (e.typ l).1,.int .i64 (e.typ l).2])/\Below w.heap.size w w':=by
 have q1:(e.kind == 1)=false:=Ud;have q2:(e.kind == 2)=false:=Ud;have q3:(e.kind == 3)=false:=Ud;have q4:(e.kind == 4)=false:=Ud;have q5:(e.kind == 5)=false:=Ud;have q6:(e.kind == 6)=false:=Ud;have q7:(e.kind == 7)=true:=Ud;have dM:(Ex.typL l e.sub).2=0:=L2;have HB:=Nf dM;clear dM;have gn:=Nf aU;clear aU;have H1:=Nf h1;clear h1;clear hk;have HV:=Nf hv;clear hv;have ai:=he.len;unfold maxLen at ai;obtain⟨bI,aD⟩:=ai;have hT:=Nf (show Ku [] (Ex.typL l (e.sub.drop 0))=Ex.typL l e.sub from Xq _ (Yb l e.sub));unfold exV
 go_enter Tryz.func160,Tryz.ntmps160
 go_wp2_with fail
 refine Jo fun W0 ag=>?_;have ax:=Nd w W0 Uo;have bD:w.heap.size<W0.heap.size:=Us;have p0:=Na W0 w.heap.size 0 e.kind Uc;have p1:=Nb W0 w.heap.size 1 (.int .i32 e.n) Uc;have p2:=Nb W0 w.heap.size 2 (.string e.name) Uc;have p3:=Nb W0 w.heap.size 3 (.slice Ae e.sub.length ce) Uc;clear ag;replace he:=he.later ax;replace hl:=hl.later ax
 go_loopw [6,7] (fun v i wr=>∃(k:Nat) (acc:List Int),k<=e.sub.length/\i = .int .i64 k/\acc.length=k/\wr.ownsRow W0.heap.size 3 1 v k (acc.map (Value.int .i64))/\Ku acc (Ex.typL l (e.sub.drop k))=Ex.typL l e.sub/\Below W0.heap.size W0 wr) (fun _ i _=>e.sub.length-(intOf i).toNat)
 case atStart=>exact⟨0,[],Np,rfl,rfl,Nw,hT.out,Nt⟩
 case round=>
  obtain⟨k,acc,hk,rfl,aR,ae,aa,ab⟩:=hrel;have hc:=Jg ab;have bu:=ab.size;have af:=lt0 w wr;have dt:=Nf aR;clear aR
  by_cases am:k<e.sub.length
  ·exact Uat
  ·have bk:k=e.sub.length:=Ua;rw [bk,Nn,Ex.typL,Ku,if_pos rfl,List.append_nil,gn.out] at aa;have aR:acc = [t0,t1]:=Dh;subst aR;have cD:k=2:=Fm;have HK:=Nf bk;clear aa bk;rw [cD] at ae;obtain⟨g,gc,rfl,eN,aG,bJ,cg,ah⟩:=Kc ae Ua;unfold maxLen at cg;have e0:=Na wr g 0 t0 (ah 0 _ rfl);have e1:=Na wr g 1 t1 (ah 1 _ rfl);have eT:g<wr.heap.size+1:=Ua;have eu:(1:Int)<((2:Nat):Int):=Ua;clear ah ae cD
   rcases fQ with rfl|rfl <;> rcases gJ with rfl|rfl
   ·exact Uew
   ·exact Uex
   ·exact Uex
   ·exact Uew
theorem Kaf (l:List Va) (A:Option Addr) (cap:Nat) (e:Ex) (ih:∀x∈e.sub,Jcr l A cap x) (Ae:Option Addr) (ce:Nat) (w:World) (he:Jt w e Ae ce) (hl:Ju w l A cap) (h3:e.sub.length<=3) (hk:e.kind=5) (aL:e.name.toList.isEmpty=true) (t0 t1:Int) (aU:Ex.typL l e.sub=([t0,t1],0)) (h1:e.sub.length=2) (fQ:t0=1\/t0=2) (gJ:t1=1\/t1=2) (eR:1<=e.n) (hn16:e.n<=16) (hv:e.typ l=Zk (Jbw e.n (Y1 t0 t1))) :
  Calls Tryz.prog 160 #[exV e Ae ce,.slice A l.length cap] w fun r w'=>r = .returned (.tuple #[.int .i64 (e.typ l).1,.int .i64 (e.typ l).2])/\Below w.heap.size w w':=by
 have q1:(e.kind == 1)=false:=Ud;have q2:(e.kind == 2)=false:=Ud;have q3:(e.kind == 3)=false:=Ud;have q4:(e.kind == 4)=false:=Ud;have q5:(e.kind == 5)=true:=Ud;clear fQ gJ;have dM:(Ex.typL l e.sub).2=0:=L2;have HB:=Nf dM;clear dM;have gn:=Nf aU;clear aU;have H1:=Nf h1;clear h1;clear hk;have HV:=Nf hv;clear hv;have ai:=he.len;unfold maxLen at ai;obtain⟨bI,aD⟩:=ai;have hT:=Nf (show Ku [] (Ex.typL l (e.sub.drop 0))=Ex.typL l e.sub from Xq _ (Yb l e.sub));unfold exV
 go_enter Tryz.func160,Tryz.ntmps160
 go_wp2_with fail
 refine Jo fun W0 ag=>?_;have ax:=Nd w W0 Uo;have bD:w.heap.size<W0.heap.size:=Us;have p0:=Na W0 w.heap.size 0 e.kind Uc;have p1:=Nb W0 w.heap.size 1 (.int .i32 e.n) Uc;have p2:=Nb W0 w.heap.size 2 (.string e.name) Uc;have p3:=Nb W0 w.heap.size 3 (.slice Ae e.sub.length ce) Uc;clear ag;replace he:=he.later ax;replace hl:=hl.later ax
 go_loopw [6,7] (fun v i wr=>∃(k:Nat) (acc:List Int),k<=e.sub.length/\i = .int .i64 k/\acc.length=k/\wr.ownsRow W0.heap.size 3 1 v k (acc.map (Value.int .i64))/\Ku acc (Ex.typL l (e.sub.drop k))=Ex.typL l e.sub/\Below W0.heap.size W0 wr) (fun _ i _=>e.sub.length-(intOf i).toNat)
 case atStart=>exact⟨0,[],Np,rfl,rfl,Nw,hT.out,Nt⟩
 case round=>
  obtain⟨k,acc,hk,rfl,aR,ae,aa,ab⟩:=hrel;have hc:=Jg ab;have bu:=ab.size;have af:=lt0 w wr;have dt:=Nf aR;clear aR
  by_cases am:k<e.sub.length
  ·exact Uat
  ·have bk:k=e.sub.length:=Ua;rw [bk,Nn,Ex.typL,Ku,if_pos rfl,List.append_nil,gn.out] at aa;have aR:acc = [t0,t1]:=Dh;subst aR;have cD:k=2:=Fm;have HK:=Nf bk;clear aa bk;rw [cD] at ae;obtain⟨g,gc,rfl,eN,aG,bJ,cg,ah⟩:=Kc ae Ua;unfold maxLen at cg;have e0:=Na wr g 0 t0 (ah 0 _ rfl);have e1:=Na wr g 1 t1 (ah 1 _ rfl);have eT:g<wr.heap.size+1:=Ua;have eR:(1:Int)<((2:Nat):Int):=Ua;clear ah ae cD
   by_cases hm:Jbw e.n (Y1 t0 t1)=1\/Jbw e.n (Y1 t0 t1)=2
   ·have aI:=HV.out;unfold Zk at aI;rw [if_pos hm] at aI;have bL:=Nf aI;clear aI
    rcases hm with hm|hm
    ·have m1:(Jbw e.n (Y1 t0 t1) != 1)=false:=by rw [hm];rfl
     exact Ueu
    ·have m1:(Jbw e.n (Y1 t0 t1) != 1)=true:=by rw [hm];rfl
     have m2:(Jbw e.n (Y1 t0 t1) != 2)=false:=by rw [hm];rfl
     exact Ueu
   ·have aI:=HV.out;unfold Zk at aI;rw [if_neg hm] at aI;have bL:=Nf aI;clear aI;have m1:(Jbw e.n (Y1 t0 t1) != 1)=true:=Uj;have m2:(Jbw e.n (Y1 t0 t1) != 2)=true:=Uj;exact Ueu
theorem Jzi (l:List Va) (A:Option Addr) (cap:Nat) (e:Ex) (ih:∀x∈e.sub,Jcr l A cap x) (Ae:Option Addr) (ce:Nat) (w:World) (he:Jt w e Ae ce) (hl:Ju w l A cap) (h3:e.sub.length<=3) (hk:e.kind=10) (aL:e.name.toList.isEmpty=false) (kk:Nat) (v:Va) (cL:Jp l e.name=(kk:Int)) (hx:l[kk]?=some v) (t0 t1:Int) (aU:Ex.typL l e.sub=([t0,t1],0)) (h1:e.sub.length=2) (fQ:t0=1\/t0=2) (gJ:t1=1\/t1=2) (eQ:v.type=2) (hv:e.typ l=if t0=t1 then(t0,0) else(0,20)) :
  Calls Tryz.prog 160 #[exV e Ae ce,.slice A l.length cap] w fun r w'=>r = .returned (.tuple #[.int .i64 (e.typ l).1,.int .i64 (e.typ l).2])/\Below w.heap.size w w':=by
 have fR:kk<l.length:=(Nh hx).1;have le:(kk:Int)<(l.length:Int):=Ua;have cY:=hl.len;unfold maxLen at cY;obtain⟨fH,fI⟩:=cY;have ap:=fun W h=>Xa l A cap e.name W (hl.later h);rw [cL] at ap;have eb:=hl;obtain⟨bv,ov,rfl,dB,⟨v0,v1,v2,v3⟩⟩:=hl.get hx;have du:bv<w.heap.size:=dB;have tkk:¬((kk:Int)<0):=Ua;clear cL hx eb;have q1:(e.kind == 1)=false:=Ud;have q2:(e.kind == 2)=false:=Ud;have q3:(e.kind == 3)=false:=Ud;have q4:(e.kind == 4)=false:=Ud;have q5:(e.kind == 5)=false:=Ud;have q6:(e.kind == 6)=false:=Ud;have q7:(e.kind == 7)=false:=Ud;have q8:(e.kind == 8)=false:=Ud;have q9:(e.kind == 9)=false:=Ud;have q10:(e.kind == 10)=true:=Ud;have t2:(v.type == 2)=true:=by rw [eQ];rfl
 clear eQ;have dM:(Ex.typL l e.sub).2=0:=L2;have HB:=Nf dM;clear dM;have gn:=Nf aU;clear aU;have H1:=Nf h1;clear h1;clear hk;have HV:=Nf hv;clear hv;have ai:=he.len;unfold maxLen at ai;obtain⟨bI,aD⟩:=ai;have hT:=Nf (show Ku [] (Ex.typL l (e.sub.drop 0))=Ex.typL l e.sub from Xq _ (Yb l e.sub));unfold exV
 go_enter Tryz.func160,Tryz.ntmps160
 go_wp2_with fail
 refine Jo fun W0 ag=>?_;have ax:=Nd w W0 Uo;have bD:w.heap.size<W0.heap.size:=Us;have p0:=Na W0 w.heap.size 0 e.kind Uc;have p1:=Nb W0 w.heap.size 1 (.int .i32 e.n) Uc;have p2:=Nb W0 w.heap.size 2 (.string e.name) Uc;have p3:=Nb W0 w.heap.size 3 (.slice Ae e.sub.length ce) Uc;clear ag;replace he:=he.later ax;replace hl:=hl.later ax
 go_loopw [6,7] (fun v i wr=>∃(k:Nat) (acc:List Int),k<=e.sub.length/\i = .int .i64 k/\acc.length=k/\wr.ownsRow W0.heap.size 3 1 v k (acc.map (Value.int .i64))/\Ku acc (Ex.typL l (e.sub.drop k))=Ex.typL l e.sub/\Below W0.heap.size W0 wr) (fun _ i _=>e.sub.length-(intOf i).toNat)
 case atStart=>exact⟨0,[],Np,rfl,rfl,Nw,hT.out,Nt⟩
 case round=>
  obtain⟨k,acc,hk,rfl,aR,ae,aa,ab⟩:=hrel;have hc:=Jg ab;have bu:=ab.size;have af:=lt0 w wr;have dt:=Nf aR;clear aR
  by_cases am:k<e.sub.length
  ·exact Uat
  ·have bk:k=e.sub.length:=Ua;rw [bk,Nn,Ex.typL,Ku,if_pos rfl,List.append_nil,gn.out] at aa;have aR:acc = [t0,t1]:=Dh;subst aR;have cD:k=2:=Fm;have HK:=Nf bk;clear aa bk;rw [cD] at ae;obtain⟨g,gc,rfl,eN,aG,bJ,cg,ah⟩:=Kc ae Ua;unfold maxLen at cg;have e0:=Na wr g 0 t0 (ah 0 _ rfl);have e1:=Na wr g 1 t1 (ah 1 _ rfl);have eT:g<wr.heap.size+1:=Ua;have eR:(1:Int)<((2:Nat):Int):=Ua;clear ah ae cD;have aC:=Nd w wr (Jd ax ab);have fA:=Jg aC;have mE:bv<wr.heap.size:=Ua;have ll:bv<wr.heap.size+1:=Ua;have qF:w.heap.size<wr.heap.size+1:=Ua;have v0':=(fA _ _ du).trans v0;have v1':=(fA _ _ du).trans v1;have v2':=(fA _ _ du).trans v2;have v3':=(fA _ _ du).trans v3;clear fA v0 v1 v2 v3
   rcases fQ with rfl|rfl <;> rcases gJ with rfl|rfl
   ·exact Ues
   ·exact Uet
   ·exact Uet
   ·exact Ues
theorem Jyq (l:List Va) (A:Option Addr) (cap:Nat) (e:Ex) (ih:∀x∈e.sub,Jcr l A cap x) (Ae:Option Addr) (ce:Nat) (w:World) (he:Jt w e Ae ce) (hl:Ju w l A cap) (h3:e.sub.length<=3) (hk:e.kind=10) (aL:e.name.toList.isEmpty=false) (kk:Nat) (v:Va) (cL:Jp l e.name=(kk:Int)) (hx:l[kk]?=some v) (t0 t1:Int) (aU:Ex.typL l e.sub=([t0,t1],0)) (h1:e.sub.length=2) (fQ:t0=1\/t0=2) (gJ:t1=1\/t1=2) (eQ:v.type≠2) (hv:e.typ l=(0,20)) :
  Calls Tryz.prog 160 #[exV e Ae ce,.slice A l.length cap] w fun r w'=>r = .returned (.tuple #[.int .i64 (e.typ l).1,.int .i64 (e.typ l).2])/\Below w.heap.size w w':=by
 have fR:kk<l.length:=(Nh hx).1;have le:(kk:Int)<(l.length:Int):=Ua;have cY:=hl.len;unfold maxLen at cY;obtain⟨fH,fI⟩:=cY;have ap:=fun W h=>Xa l A cap e.name W (hl.later h);rw [cL] at ap;have eb:=hl;obtain⟨bv,ov,rfl,dB,⟨v0,v1,v2,v3⟩⟩:=hl.get hx;have du:bv<w.heap.size:=dB;have tkk:¬((kk:Int)<0):=Ua;clear cL hx eb;have q1:(e.kind == 1)=false:=Ud;have q2:(e.kind == 2)=false:=Ud;have q3:(e.kind == 3)=false:=Ud;have q4:(e.kind == 4)=false:=Ud;have q5:(e.kind == 5)=false:=Ud;have q6:(e.kind == 6)=false:=Ud;have q7:(e.kind == 7)=false:=Ud;have q8:(e.kind == 8)=false:=Ud;have q9:(e.kind == 9)=false:=Ud;have q10:(e.kind == 10)=true:=Ud;have t2:(v.type == 2)=false:=Sx;clear eQ;have dM:(Ex.typL l e.sub).2=0:=L2;have HB:=Nf dM;clear dM;have gn:=Nf aU;clear aU;have H1:=Nf h1;clear h1;clear hk;have HV:=Nf hv;clear hv;have ai:=he.len;unfold maxLen at ai;obtain⟨bI,aD⟩:=ai;have hT:=Nf (show Ku [] (Ex.typL l (e.sub.drop 0))=Ex.typL l e.sub from Xq _ (Yb l e.sub));unfold exV
 go_enter Tryz.func160,Tryz.ntmps160
 go_wp2_with fail
 refine Jo fun W0 ag=>?_;have ax:=Nd w W0 Uo;have bD:w.heap.size<W0.heap.size:=Us;have p0:=Na W0 w.heap.size 0 e.kind Uc;have p1:=Nb W0 w.heap.size 1 (.int .i32 e.n) Uc;have p2:=Nb W0 w.heap.size 2 (.string e.name) Uc;have p3:=Nb W0 w.heap.size 3 (.slice Ae e.sub.length ce) Uc;clear ag;replace he:=he.later ax;replace hl:=hl.later ax
 go_loopw [6,7] (fun v i wr=>∃(k:Nat) (acc:List Int),k<=e.sub.length/\i = .int .i64 k/\acc.length=k/\wr.ownsRow W0.heap.size 3 1 v k (acc.map (Value.int .i64))/\Ku acc (Ex.typL l (e.sub.drop k))=Ex.typL l e.sub/\Below W0.heap.size W0 wr) (fun _ i _=>e.sub.length-(intOf i).toNat)
 case atStart=>exact⟨0,[],Np,rfl,rfl,Nw,hT.out,Nt⟩
 case round=>
  obtain⟨k,acc,hk,rfl,aR,ae,aa,ab⟩:=hrel;have hc:=Jg ab;have bu:=ab.size;have af:=lt0 w wr;have dt:=Nf aR;clear aR
  by_cases am:k<e.sub.length
  ·exact Uat
  ·have bk:k=e.sub.length:=Ua;rw [bk,Nn,Ex.typL,Ku,if_pos rfl,List.append_nil,gn.out] at aa;have aR:acc = [t0,t1]:=Dh;subst aR;have cD:k=2:=Fm;have HK:=Nf bk;clear aa bk;rw [cD] at ae;obtain⟨g,gc,rfl,eN,aG,bJ,cg,ah⟩:=Kc ae Ua;unfold maxLen at cg;have e0:=Na wr g 0 t0 (ah 0 _ rfl);have e1:=Na wr g 1 t1 (ah 1 _ rfl);have eT:g<wr.heap.size+1:=Ua;have eR:(1:Int)<((2:Nat):Int):=Ua;clear ah ae cD;have aC:=Nd w wr (Jd ax ab);have fA:=Jg aC;have mE:bv<wr.heap.size:=Ua;have ll:bv<wr.heap.size+1:=Ua;have qF:w.heap.size<wr.heap.size+1:=Ua;have v0':=(fA _ _ du).trans v0;have v1':=(fA _ _ du).trans v1;have v2':=(fA _ _ du).trans v2;have v3':=(fA _ _ du).trans v3;clear fA v0 v1 v2 v3;have bL:=Nf HV.out
   go_wp2_with (first|(go_at_call 49;go_loud (refine(ap _ Jb).mono ?_;rintro r w1 ⟨rfl,ac⟩;have ak:=Jg ac;have db:=Jf ac;have eq:=ac.size;(try simp at eq);have ge:bv<w1.heap.size:=Ua;(try have gf:g<w1.heap.size:=Ua))))
   go_ret2
   exact⟨U8,Udl⟩
theorem Jz3 (l:List Va) (A:Option Addr) (cap:Nat) (e:Ex) (ih:∀x∈e.sub,Jcr l A cap x) (Ae:Option Addr) (ce:Nat) (w:World) (he:Jt w e Ae ce) (hl:Ju w l A cap) (h3:e.sub.length<=3) (hk:e.kind=6) (aL:e.name.toList.isEmpty=true) (t1 t2:Int) (aU:Ex.typL l e.sub=([2,t1,t2],0)) (h1:e.sub.length=3) (gJ:t1=1\/t1=2) (nQ:t2=1\/t2=2) (hv:e.typ l=if t1=t2 then(t1,0) else(0,20)) :
  Calls Tryz.prog 160 #[exV e Ae ce,.slice A l.length cap] w fun r w'=>r = .returned (.tuple #[.int .i64 (e.typ l).1,.int .i64 (e.typ l).2])/\Below w.heap.size w w':=by
 have q1:(e.kind == 1)=false:=Ud;have q2:(e.kind == 2)=false:=Ud;have q3:(e.kind == 3)=false:=Ud;have q4:(e.kind == 4)=false:=Ud;have q5:(e.kind == 5)=false:=Ud;have q6:(e.kind == 6)=true:=Ud;have dM:(Ex.typL l e.sub).2=0:=L2;have HB:=Nf dM;clear dM;have gn:=Nf aU;clear aU;have H1:=Nf h1;clear h1;clear hk;have HV:=Nf hv;clear hv;have ai:=he.len;unfold maxLen at ai;obtain⟨bI,aD⟩:=ai;have hT:=Nf (show Ku [] (Ex.typL l (e.sub.drop 0))=Ex.typL l e.sub from Xq _ (Yb l e.sub));unfold exV
 go_enter Tryz.func160,Tryz.ntmps160
 go_wp2_with fail
 refine Jo fun W0 ag=>?_;have ax:=Nd w W0 Uo;have bD:w.heap.size<W0.heap.size:=Us;have p0:=Na W0 w.heap.size 0 e.kind Uc;have p1:=Nb W0 w.heap.size 1 (.int .i32 e.n) Uc;have p2:=Nb W0 w.heap.size 2 (.string e.name) Uc;have p3:=Nb W0 w.heap.size 3 (.slice Ae e.sub.length ce) Uc;clear ag;replace he:=he.later ax;replace hl:=hl.later ax
 go_loopw [6,7] (fun v i wr=>∃(k:Nat) (acc:List Int),k<=e.sub.length/\i = .int .i64 k/\acc.length=k/\wr.ownsRow W0.heap.size 3 1 v k (acc.map (Value.int .i64))/\Ku acc (Ex.typL l (e.sub.drop k))=Ex.typL l e.sub/\Below W0.heap.size W0 wr) (fun _ i _=>e.sub.length-(intOf i).toNat)
 case atStart=>exact⟨0,[],Np,rfl,rfl,Nw,hT.out,Nt⟩
 case round=>
  obtain⟨k,acc,hk,rfl,aR,ae,aa,ab⟩:=hrel;have hc:=Jg ab;have bu:=ab.size;have af:=lt0 w wr;have dt:=Nf aR;clear aR
  by_cases am:k<e.sub.length
  ·exact Uat
  ·have bk:k=e.sub.length:=Ua;rw [bk,Nn,Ex.typL,Ku,if_pos rfl,List.append_nil,gn.out] at aa;have aR:acc = [2,t1,t2]:=Dh;subst aR;have cD:k=3:=Fm;have HK:=Nf bk;clear aa bk;rw [cD] at ae;obtain⟨g,gc,rfl,eN,aG,bJ,cg,ah⟩:=Kc ae Ua;unfold maxLen at cg;have e0:=Na wr g 0 2 (ah 0 _ rfl);have e1:=Na wr g 1 t1 (ah 1 _ rfl);have e2:=Na wr g 2 t2 (ah 2 _ rfl);have eT:g<wr.heap.size+1:=Ua;have eR:(1:Int)<((3:Nat):Int):=Ua;have eu:(2:Int)<((3:Nat):Int):=Ua;clear ah ae cD
   rcases gJ with rfl|rfl <;> rcases nQ with rfl|rfl
   ·exact Uew
   ·exact Uex
   ·exact Uex
   ·exact Uew
theorem Jzd (l:List Va) (A:Option Addr) (cap:Nat) (e:Ex) (ih:∀x∈e.sub,Jcr l A cap x) (Ae:Option Addr) (ce:Nat) (w:World) (he:Jt w e Ae ce) (hl:Ju w l A cap) (h3:e.sub.length<=3) (hk:e.kind=6) (aL:e.name.toList.isEmpty=true) (t1 t2:Int) (aU:Ex.typL l e.sub=([1,t1,t2],0)) (h1:e.sub.length=3) (gJ:t1=1\/t1=2) (nQ:t2=1\/t2=2) (hv:e.typ l=(0,20)) :
  Calls Tryz.prog 160 #[exV e Ae ce,.slice A l.length cap] w fun r w'=>r = .returned (.tuple #[.int .i64 (e.typ l).1,.int .i64 (e.typ l).2])/\Below w.heap.size w w':=by
 have q1:(e.kind == 1)=false:=Ud;have q2:(e.kind == 2)=false:=Ud;have q3:(e.kind == 3)=false:=Ud;have q4:(e.kind == 4)=false:=Ud;have q5:(e.kind == 5)=false:=Ud;have q6:(e.kind == 6)=true:=Ud;clear gJ nQ;have dM:(Ex.typL l e.sub).2=0:=L2;have HB:=Nf dM;clear dM;have gn:=Nf aU;clear aU;have H1:=Nf h1;clear h1;clear hk;have HV:=Nf hv;clear hv;have ai:=he.len;unfold maxLen at ai;obtain⟨bI,aD⟩:=ai;have hT:=Nf (show Ku [] (Ex.typL l (e.sub.drop 0))=Ex.typL l e.sub from Xq _ (Yb l e.sub));unfold exV
 go_enter Tryz.func160,Tryz.ntmps160
 go_wp2_with fail
 refine Jo fun W0 ag=>?_;have ax:=Nd w W0 Uo;have bD:w.heap.size<W0.heap.size:=Us;have p0:=Na W0 w.heap.size 0 e.kind Uc;have p1:=Nb W0 w.heap.size 1 (.int .i32 e.n) Uc;have p2:=Nb W0 w.heap.size 2 (.string e.name) Uc;have p3:=Nb W0 w.heap.size 3 (.slice Ae e.sub.length ce) Uc;clear ag;replace he:=he.later ax;replace hl:=hl.later ax
 go_loopw [6,7] (fun v i wr=>∃(k:Nat) (acc:List Int),k<=e.sub.length/\i = .int .i64 k/\acc.length=k/\wr.ownsRow W0.heap.size 3 1 v k (acc.map (Value.int .i64))/\Ku acc (Ex.typL l (e.sub.drop k))=Ex.typL l e.sub/\Below W0.heap.size W0 wr) (fun _ i _=>e.sub.length-(intOf i).toNat)
 case atStart=>exact⟨0,[],Np,rfl,rfl,Nw,hT.out,Nt⟩
 case round=>
  obtain⟨k,acc,hk,rfl,aR,ae,aa,ab⟩:=hrel;have hc:=Jg ab;have bu:=ab.size;have af:=lt0 w wr;have dt:=Nf aR;clear aR
  by_cases am:k<e.sub.length
  ·exact Uat
  ·have bk:k=e.sub.length:=Ua;rw [bk,Nn,Ex.typL,Ku,if_pos rfl,List.append_nil,gn.out] at aa;have aR:acc = [1,t1,t2]:=Dh;subst aR;have cD:k=3:=Fm;have HK:=Nf bk;clear aa bk;rw [cD] at ae;obtain⟨g,gc,rfl,eN,aG,bJ,cg,ah⟩:=Kc ae Ua;unfold maxLen at cg;have e0:=Na wr g 0 1 (ah 0 _ rfl);have e1:=Na wr g 1 t1 (ah 1 _ rfl);have e2:=Na wr g 2 t2 (ah 2 _ rfl);have eT:g<wr.heap.size+1:=Ua;have eR:(1:Int)<((3:Nat):Int):=Ua;have eu:(2:Int)<((3:Nat):Int):=Ua;clear ah ae cD;have bL:=Nf HV.out
   go_wp2_with fail
   go_ret2
   exact⟨U8,Udl⟩
theorem Jia {a b:Int} (ha:a=1\/a=2):Zk (Y1 a b)=if a=b then(a,0) else(0,20):=by
 unfold Y1 Zk
 by_cases h:a=b
 ·rw [if_pos h,if_pos ha,if_pos h]
 ·rw [if_neg h,if_neg Ua,if_neg h]
theorem Jrc {a:Int} (ha:a=1\/a=2):Zk a=(a,0):=by unfold Zk;rw [if_pos ha]
theorem Jsb {e:Ex} (h:e.formed=true) (hk:e.kind=5):1<=e.n/\e.n<=16:=by
 exact Ucz
theorem Jyc (e:Ex):e.formed=true->∀(l:List Va) (A:Option Addr) (cap:Nat),Jcr l A cap e:=by
 induction e using Ex.ind with
 | h e ih0=>
 intro hf l A cap Ae ce w he hl;have ih:∀x∈e.sub,Jcr l A cap x:=fun x hx=>ih0 x hx (Ex.formed_sub hf hx) l A cap;have ai:=Ex.formed_kind hf
 have fD:e.sub.length<=3:=by
  exact Uc0
 by_cases fK:(Ex.typL l e.sub).2=0
 case neg=>exact Jy0 l A cap e ih Ae ce w he hl fD fK
 have aO:=Ji9 hf;have aU:(Ex.typL l e.sub).1.length=e.sub.length:=Jj4 l e.sub fK;have eG:=Jl8 l e.sub fK;have ci:Ex.typL l e.sub=((Ex.typL l e.sub).1,0):=by rw [<-fK]
 have rD:e.typ l=Y2 l e.kind e.n e.name (Ex.typL l e.sub).1:=by rw [Ex.typ_eq,if_pos fK]
 have cD:=ai.1;have h4:=Jni hf;have h5:=Jsb hf;generalize (Ex.typL l e.sub).1=ts at aU eG ci rD
 have wt:∀named:Int,(e.name.toList.isEmpty=true\/(K7 l e.name).2=true)->(K7 l e.name).1=named->e.typ l=Zk (kR e.kind e.n named ts):=by
  intro named hn aL;rw [rD,Y2,if_neg (by rcases hn with hn|hn <;> simp [hn]),aL];have mI:1<=e.kind/\e.kind<=10:=by rcases Jbc hf with hk|hk|hk|hk|hk|hk|hk|hk|hk|hk <;> omega
  refine Jzc _ _ _ _ eG mI ?_ ?_ ?_ ?_ ?_ ?_
  ·intro hk;rw [hk] at cD;exact⟨h4 hk,by simp [Jw] at cD;omega⟩
  ·intro hk;rw [hk] at cD;exact⟨(h5 hk).1,(h5 hk).2,by simp [Jw] at cD;omega⟩
  ·intro hk;rw [hk] at cD;simp [Jw] at cD;omega
  ·intro hk;rw [hk] at cD;simp [Jw] at cD;omega
  ·rintro(hk|hk) <;> rw [hk] at cD <;> simp [Jw] at cD <;> omega
  ·intro hk;rw [hk] at cD;simp [Jw] at cD;omega
 cases aL:e.name.toList.isEmpty
 case false=>
  cases lc:Qi l e.name with
  | none=>
   refine Jwt l A cap e ih Ae ce w he hl fD fK aL lc ?_;rw [rD,Y2,if_pos ⟨aL,by unfold K7;rw [lc]⟩]
  | some j=>
   obtain⟨kk,v,rfl,hx,_⟩:=Zi lc;have cL:Jp l e.name=(kk:Int):=by unfold Jp;rw [lc];rfl
   have wR:K7 l e.name=(v.type,true):=by unfold K7;rw [lc];simp only [Int.toNat_natCast,hx]
   have hv:=wt v.type (.inr (by rw [wR])) (by rw [wR])
   rcases Jbc hf with hk|hk|hk|hk|hk|hk|hk|hk|hk|hk <;> rw [hk] at cD aO hv <;> simp [Jw] at cD aO
   ·simp [aO] at aL
   ·simp [aO] at aL
   ·exact Kaa l A cap e ih Ae ce w he hl (by rw [cD];rfl) hk aL kk v cL hx hv
   ·simp [aO] at aL
   ·simp [aO] at aL
   ·simp [aO] at aL
   ·simp [aO] at aL
   ·obtain⟨t0,rfl⟩:=Jcd (l:=ts) Ua;refine Kad l A cap e ih Ae ce w he hl fD hk aL kk v cL hx t0 ci Ua (eG _ Ul) ?_;exact Ucd
   ·obtain⟨t0,rfl⟩:=Jcd (l:=ts) Ua;refine Kah l A cap e ih Ae ce w he hl fD hk aL kk v cL hx t0 ci Ua (eG _ Ul) ?_;exact Ucd
   ·obtain⟨t0,t1,rfl⟩:=Jcn (l:=ts) Ua
    by_cases h:v.type=2
    ·refine Jzi l A cap e ih Ae ce w he hl fD hk aL kk v cL hx t0 t1 ci Ua (eG _ Ul) (eG _ Ul) h ?_;rw [hv,<-Jia (eG _ Ul)];simp [kR,h]
    ·refine Jyq l A cap e ih Ae ce w he hl fD hk aL kk v cL hx t0 t1 ci Ua (eG _ Ul) (eG _ Ul) h ?_;rw [hv];simp [kR,h,Zk]
 case true=>
  have hv:=wt _ (.inl aL) rfl
  rcases Jbc hf with hk|hk|hk|hk|hk|hk|hk|hk|hk|hk <;> rw [hk] at cD aO hv <;> simp [Jw] at cD aO
  ·exact Jvo l A cap e ih Ae ce w he hl (by rw [cD];rfl) (.inl hk) aL (by rw [hv,hk];rfl)
  ·exact Jvo l A cap e ih Ae ce w he hl (by rw [cD];rfl) (.inr hk) aL (by rw [hv,hk];rfl)
  ·exact Udd
  ·obtain⟨t0,rfl⟩:=Jcd (l:=ts) Ua;have fQ:=eG t0 Ul;have hn:=h4 hk;refine Jzy l A cap e ih Ae ce w he hl fD hk aL t0 ci Ua fQ hn ?_;rw [hv]
   rcases fQ with rfl|rfl <;> rcases hn with hn|hn <;> simp [kR,Zk,hn]
  ·obtain⟨t0,t1,rfl⟩:=Jcn (l:=ts) Ua;refine Kaf l A cap e ih Ae ce w he hl fD hk aL t0 t1 ci Ua (eG _ Ul) (eG _ Ul) (h5 hk).1 (h5 hk).2 ?_;rw [hv];simp [kR]
  ·obtain⟨t0,t1,t2,rfl⟩:=Jn6 (l:=ts) Ua;have fQ:=eG t0 Ul;have gJ:=eG t1 Ul;have nQ:=eG t2 Ul
   rcases fQ with rfl|rfl
   ·refine Jzd l A cap e ih Ae ce w he hl fD hk aL t1 t2 ci Ua gJ nQ ?_;rw [hv];simp [kR,Zk]
   ·refine Jz3 l A cap e ih Ae ce w he hl fD hk aL t1 t2 ci Ua gJ nQ ?_;rw [hv,<-Jia gJ];simp [kR]
  ·obtain⟨t0,t1,rfl⟩:=Jcn (l:=ts) Ua;refine Jzw l A cap e ih Ae ce w he hl fD hk aL t0 t1 ci Ua (eG _ Ul) (eG _ Ul) ?_;rw [hv,<-Jia (eG _ Ul)];simp [kR]
  ·exact Udd
  ·exact Udd
  ·exact Udd
theorem Joz {e:Ex} (hr:e.right=0):e.formed=true:=(Ex.right_zero.1 hr).2.2
theorem Jm9 (e:Ex) (aw:e.OK) (Ae:Option Addr) (ce:Nat) (l:List Va) (A:Option Addr) (cap:Nat) (w:World) (he:Jt w e Ae ce) (hl:Ju w l A cap) :
  Calls Tryz.prog 137 #[exV e Ae ce,.slice A l.length cap] w fun r w'=>r = .returned (.tuple #[.int .i64 (ofF e l).1,.int .i64 (ofF e l).2])/\Below w.heap.size w w':=by
 have aB:=fun W h=>Jdb e Ae ce W (he.later h) aw;clear aw
 by_cases hr:e.right=0
 ·have ix:=fun W h1 h2=>Jyc e (Joz hr) l A cap Ae ce W h1 h2;have hv:ofF e l=e.typ l:=by unfold ofF;rw [if_neg Ua]
  have h1:(e.right != 0)=false:=Dq;clear hr;have HV:=Nf hv;clear hv;unfold exV at *
  go_enter Tryz.func137,Tryz.ntmps137
  go_wp2_with (first|(go_at_call 119;refine mo (aB _ Jb) fun w1 ac ak af bV=>?_;(try simp at af))|(go_at_call 160;refine(ix _ (he.later Jb) (hl.later Jb)).mono ?_;rintro r wc ⟨rfl,bU⟩))
  go_ret2
  exact⟨Fj,Jb⟩
 ·have hv:ofF e l=(0,e.right):=by unfold ofF;rw [if_pos hr]
  have h1:(e.right != 0)=true:=Dq;clear hr;have HV:=Nf hv;clear hv;unfold exV at *
  go_enter Tryz.func137,Tryz.ntmps137
  go_wp2_with (first|(go_at_call 119;refine mo (aB _ Jb) fun w1 ac ak af bV=>?_;(try simp at af)))
  go_ret2
  exact⟨Fj,Jb⟩
end Go.Proofs.YtknfcamdfdfoeaaGreatDoor
