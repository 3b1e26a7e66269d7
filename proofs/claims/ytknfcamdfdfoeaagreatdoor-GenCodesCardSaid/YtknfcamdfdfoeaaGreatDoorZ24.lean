/- Lemmas. -/
import Derived.Test.YtknfcamdfdfoeaaGreatDoorMac
import Derived.Test.YtknfcamdfdfoeaaGreatDoorZ23
import Derived.Test.YtknfcamdfdfoeaaGreatDoorZ07
import Derived.Test.YtknfcamdfdfoeaaGreatDoorZ17
import Derived.Test.YtknfcamdfdfoeaaGreatDoorZ05
import Derived.Test.YtknfcamdfdfoeaaGreatDoorZ01
import Derived.Test.YtknfcamdfdfoeaaGreatDoorZ03
import Derived.Test.YtknfcamdfdfoeaaGreatDoorZ20
set_option linter.unusedVariables false
set_option linter.unusedSimpArgs false
set_option maxRecDepth 100000
set_option maxHeartbeats 64000000
namespace Go.Proofs.YtknfcamdfdfoeaaGreatDoor
open Go.RowKit Go.Sort
theorem Jhv (l:List ByteArray) (e:Ex):∀(A:Option Addr) (cap:Nat) (AL:Option Addr) (capL:Nat) (w:World),Jt w e A cap->Qf w l AL capL->e.formed=true->
  Calls Tryz.prog 82 #[exV e A cap,.slice AL l.length capL] w fun r w'=>r = .returned (.bool (e.reach (inL l)))/\Below w.heap.size w w':=by
 induction e using Ex.ind with
 | h e ih=>
 intro A cap AL capL w he hl hf;obtain⟨R,hR⟩:∃R,R=e.reach (inL l):=⟨_,rfl⟩;rw [<-hR];rw [Ex.reach_eq,show inL l e.name=(!e.name.toList.isEmpty && Ka l e.name) from rfl] at hR;have ot:=he.len;have cY:=hl.len;unfold maxLen at ot cY;obtain⟨hel1,hel2⟩:=ot;obtain⟨fH,fI⟩:=cY;unfold exV at *
 cases hem:e.name.toList.isEmpty
 ·cases hh:Ka l e.name
  ·have HH:=Lib.hid hh;rw [hem,hh,Bool.and_false,Bool.false_or] at hR;clear hh;exact Tk
  ·have HH:=Lib.hid hh;rw [hem,hh] at hR;have HR:=Lib.hid (by rw [hR];rfl:true=R);clear hh hR
   go_enter Tryz.func82,Tryz.ntmps82
   go_wp2_with (first|(go_at_call 54;refine(Yu l AL capL e.name _ (hl.later Jb)).mono ?_;rw [HH.out];rintro r wh ⟨rfl,dX⟩))
   exact Udg
 ·rw [hem,Bool.not_true,Bool.false_and,Bool.false_or] at hR;exact Tk
theorem Jvb (l:List ByteArray) (e:Ex):∀(A:Option Addr) (cap:Nat) (AL:Option Addr) (capL:Nat) (w:World),Jt w e A cap->Qf w l AL capL->e.formed=true->
  Calls Tryz.prog 81 #[exV e A cap,.slice AL l.length capL] w fun r w'=>r = .returned (.bool (e.torn (inL l)))/\Below w.heap.size w w':=by
 induction e using Ex.ind with
 | h e ih=>
 intro A cap AL capL w he hl hf;obtain⟨R,hR⟩:∃R,R=e.torn (inL l):=⟨_,rfl⟩;rw [<-hR];rw [Ex.torn_eq] at hR;have iN:=fun W h=>Jhv l e A cap AL capL W (he.later h) (hl.later h) hf;have ot:=he.len;have cY:=hl.len;unfold maxLen at ot cY;obtain⟨hel1,hel2⟩:=ot;obtain⟨fH,fI⟩:=cY;unfold exV at *
 by_cases hk:e.kind=10
 ·have tk:(e.kind == 10)=true:=Vw;rw [show decide (e.kind=10)=true by simpa using hk,Bool.true_and] at hR;clear hk
  cases hZ:e.reach (inL l)
  ·rw [hZ,Bool.false_or] at hR;have lv:=Lib.hid hZ;have HB:=Lib.hid (by rw [hR];rfl:Ex.tornL (inL l) (e.sub.drop 0)=R);clear hZ hR;exact Tv
  ·rw [hZ,Bool.true_or] at hR;have lv:=Lib.hid hZ;have HR:=Lib.hid hR.symm;clear hZ hR
   go_enter Tryz.func81,Tryz.ntmps81
   go_wp2_with (first|(go_at_call 82;go_loud (refine(iN _ Jb).mono ?_;rw [lv.out];rintro r wh ⟨rfl,dX⟩)))
   exact Udg
 ·have tk:(e.kind == 10)=false:=Vw;rw [show decide (e.kind=10)=false by simpa using hk,Bool.false_and,Bool.false_or] at hR;have HB:=Lib.hid (by rw [hR];rfl:Ex.tornL (inL l) (e.sub.drop 0)=R);clear hk hR iN;exact Tv
def Jd4 (k:Int):Bool:=k == 1 || k == 2 || k == 4 || k == 5
theorem Yf (k:Int) (w:World):Calls Tryz.prog 175 #[.int .i64 k] w fun r w'=>r = .returned (.bool (Jd4 k))/\w=w':=by
 have hv:Jd4 k=(k == 1 || k == 2 || k == 4 || k == 5):=rfl
 cases h1:(k == 1) <;> cases h2:(k == 2) <;> cases h4:(k == 4) <;> cases h5:(k == 5) <;>
 ·rw [h1,h2,h4,h5] at hv;have HV:=Lib.hid hv;clear hv
  go_enter Tryz.func175,Tryz.ntmps175
  go_wp2_with fail
  go_ret;exact⟨Jk HV.out.symm,rfl⟩
theorem Ja2 {s:ByteArray} (h:s.toList.isEmpty=true):Kz s=false:=by
 cases hn:Kz s with
 | false=>rfl
 | true=>rw [Jbx hn] at h;cases h
theorem Jyz (e:Ex) (A:Option Addr) (cap:Nat) (w:World) (bg:I32 e.n) (hk:e.kind=1) :
  Calls Tryz.prog 161 #[exV e A cap] w fun r w'=>r = .returned (.bool (Jl e.kind e.n e.name e.sub.length))/\Below w.heap.size w w':=by
 unfold I32 at bg;obtain⟨eR,eu⟩:=bg;have aL:=fun W=>Xt e.name W;have cp:=fun W=>Yf e.kind W;have jq:Jd4 e.kind=true:=Ud;rw [jq] at cp;have t1:(e.kind == 1)=true:=Ud
 by_cases hl:e.sub.length=0
 ·have l1:((e.sub.length:Int) == 0)=true:=Dd
  by_cases h:0<=e.n
  ·have s1:decide (0<=e.n)=true:=Ve
   cases hs:e.name.toList.isEmpty
   ·exact Uai
   ·have bC:=Ja2 hs;have bd:e.name.toList = []:=Mx;have hv:Jl e.kind e.n e.name e.sub.length=true:=by unfold Jl Jw;rw [hk];simp [hl,bC,bd,h,eu,Int.not_lt.2 h,Int.not_lt.2 eu]
    exact Uap
  ·have s1:decide (0<=e.n)=false:=Ve;have hv:Jl e.kind e.n e.name e.sub.length=false:=My;exact Uap
 ·exact B8
theorem Jym (e:Ex) (A:Option Addr) (cap:Nat) (w:World) (bg:I32 e.n) (hk:e.kind=2) :
  Calls Tryz.prog 161 #[exV e A cap] w fun r w'=>r = .returned (.bool (Jl e.kind e.n e.name e.sub.length))/\Below w.heap.size w w':=by
 unfold I32 at bg;obtain⟨eR,eu⟩:=bg;have aL:=fun W=>Xt e.name W;have cp:=fun W=>Yf e.kind W;have jq:Jd4 e.kind=true:=Ud;rw [jq] at cp;have t1:(e.kind == 1)=false:=Ud;have t2:(e.kind == 2)=true:=Ud
 by_cases hl:e.sub.length=0
 ·have l1:((e.sub.length:Int) == 0)=true:=Dd
  by_cases h:e.n=0
  ·have s1:(e.n == 0)=true:=Sl
   cases hs:e.name.toList.isEmpty
   ·exact Uai
   ·have bC:=Ja2 hs;have bd:e.name.toList = []:=Mx;have hv:Jl e.kind e.n e.name e.sub.length=true:=G3;exact Uap
  ·have s1:(e.n == 0)=false:=Ve
   by_cases h2:e.n=1
   ·have s2:(e.n == 1)=true:=by rw [h2];rfl
    cases hs:e.name.toList.isEmpty
    ·exact Uai
    ·have bC:=Ja2 hs;have bd:e.name.toList = []:=Mx;have hv:Jl e.kind e.n e.name e.sub.length=true:=by unfold Jl Jw;rw [hk];simp [hl,bC,bd,h2]
     exact Uap
   ·have s2:(e.n == 1)=false:=Lg;have h3:e.n<0\/1<e.n:=Ua
    rcases h3 with h3|h3
    ·have hv:Jl e.kind e.n e.name e.sub.length=false:=Vj;exact Uap
    ·have hv:Jl e.kind e.n e.name e.sub.length=false:=Vj;exact Uap
 ·exact B8
theorem Jye (e:Ex) (A:Option Addr) (cap:Nat) (w:World) (bg:I32 e.n) (hk:e.kind=3) :
  Calls Tryz.prog 161 #[exV e A cap] w fun r w'=>r = .returned (.bool (Jl e.kind e.n e.name e.sub.length))/\Below w.heap.size w w':=by
 unfold I32 at bg;obtain⟨eR,eu⟩:=bg;have aL:=fun W=>Xt e.name W;have cp:=fun W=>Yf e.kind W;have jq:Jd4 e.kind=false:=Ud;rw [jq] at cp;have t1:(e.kind == 1)=false:=Ud;have t2:(e.kind == 2)=false:=Ud;have t3:(e.kind == 3)=true:=Ud
 by_cases hl:e.sub.length=0
 ·have l1:((e.sub.length:Int) == 0)=true:=Dd;exact Tt
 ·exact B8
theorem Jx6 (e:Ex) (A:Option Addr) (cap:Nat) (w:World) (bg:I32 e.n) (hk:e.kind=4) :
  Calls Tryz.prog 161 #[exV e A cap] w fun r w'=>r = .returned (.bool (Jl e.kind e.n e.name e.sub.length))/\Below w.heap.size w w':=by
 unfold I32 at bg;obtain⟨eR,eu⟩:=bg;have aL:=fun W=>Xt e.name W;have cp:=fun W=>Yf e.kind W;have jq:Jd4 e.kind=true:=Ud;rw [jq] at cp;have t1:(e.kind == 1)=false:=Ud;have t2:(e.kind == 2)=false:=Ud;have t3:(e.kind == 3)=false:=Ud;have t4:(e.kind == 4)=true:=Ud
 by_cases hl:e.sub.length=1
 ·have l1:((e.sub.length:Int) == 1)=true:=Dd
  by_cases h:1<=e.n
  ·have s1:decide (1<=e.n)=true:=Ve
   by_cases h2:e.n<=2
   ·have s2:decide (e.n<=2)=true:=Lg;exact T7
   ·have s2:decide (e.n<=2)=false:=Lg;exact Uag
  ·exact Uah
 ·exact B9
theorem Jys (e:Ex) (A:Option Addr) (cap:Nat) (w:World) (bg:I32 e.n) (hk:e.kind=5) :
  Calls Tryz.prog 161 #[exV e A cap] w fun r w'=>r = .returned (.bool (Jl e.kind e.n e.name e.sub.length))/\Below w.heap.size w w':=by
 unfold I32 at bg;obtain⟨eR,eu⟩:=bg;have aL:=fun W=>Xt e.name W;have cp:=fun W=>Yf e.kind W;have jq:Jd4 e.kind=true:=Ud;rw [jq] at cp;have t1:(e.kind == 1)=false:=Ud;have t2:(e.kind == 2)=false:=Ud;have t3:(e.kind == 3)=false:=Ud;have t4:(e.kind == 4)=false:=Ud;have t5:(e.kind == 5)=true:=Ud
 by_cases hl:e.sub.length=2
 ·have l1:((e.sub.length:Int) == 2)=true:=Dd
  by_cases h:1<=e.n
  ·have s1:decide (1<=e.n)=true:=Ve
   by_cases h2:e.n<=16
   ·have s2:decide (e.n<=16)=true:=Lg;exact T7
   ·have s2:decide (e.n<=16)=false:=Lg;exact Uag
  ·exact Uah
 ·exact Uaa
theorem Jyo (e:Ex) (A:Option Addr) (cap:Nat) (w:World) (bg:I32 e.n) (hk:e.kind=6) :
  Calls Tryz.prog 161 #[exV e A cap] w fun r w'=>r = .returned (.bool (Jl e.kind e.n e.name e.sub.length))/\Below w.heap.size w w':=by
 unfold I32 at bg;obtain⟨eR,eu⟩:=bg;have aL:=fun W=>Xt e.name W;have cp:=fun W=>Yf e.kind W;have jq:Jd4 e.kind=false:=Ud;rw [jq] at cp;have t1:(e.kind == 1)=false:=Ud;have t2:(e.kind == 2)=false:=Ud;have t3:(e.kind == 3)=false:=Ud;have t4:(e.kind == 4)=false:=Ud;have t5:(e.kind == 5)=false:=Ud;have t6:(e.kind == 6)=true:=Ud
 by_cases hl:e.sub.length=3
 ·have l1:((e.sub.length:Int) == 3)=true:=Dd;exact Tq
 ·have l1:((e.sub.length:Int) == 3)=false:=Lb;have aD:¬(e.sub.length:Int)=3:=Ua;have hv:Jl e.kind e.n e.name e.sub.length=false:=Vt;exact Uap
theorem Jyn (e:Ex) (A:Option Addr) (cap:Nat) (w:World) (bg:I32 e.n) (hk:e.kind=7) :
  Calls Tryz.prog 161 #[exV e A cap] w fun r w'=>r = .returned (.bool (Jl e.kind e.n e.name e.sub.length))/\Below w.heap.size w w':=by
 unfold I32 at bg;obtain⟨eR,eu⟩:=bg;have aL:=fun W=>Xt e.name W;have cp:=fun W=>Yf e.kind W;have jq:Jd4 e.kind=false:=Ud;rw [jq] at cp;have t1:(e.kind == 1)=false:=Ud;have t2:(e.kind == 2)=false:=Ud;have t3:(e.kind == 3)=false:=Ud;have t4:(e.kind == 4)=false:=Ud;have t5:(e.kind == 5)=false:=Ud;have t6:(e.kind == 6)=false:=Ud;have t7:(e.kind == 7)=true:=Ud
 by_cases hl:e.sub.length=2
 ·have l1:((e.sub.length:Int) == 2)=true:=Dd;exact Tq
 ·exact Uaa
theorem Jx8 (e:Ex) (A:Option Addr) (cap:Nat) (w:World) (bg:I32 e.n) (hk:e.kind=8) :
  Calls Tryz.prog 161 #[exV e A cap] w fun r w'=>r = .returned (.bool (Jl e.kind e.n e.name e.sub.length))/\Below w.heap.size w w':=by
 unfold I32 at bg;obtain⟨eR,eu⟩:=bg;have aL:=fun W=>Xt e.name W;have cp:=fun W=>Yf e.kind W;have jq:Jd4 e.kind=false:=Ud;rw [jq] at cp;have t1:(e.kind == 1)=false:=Ud;have t2:(e.kind == 2)=false:=Ud;have t3:(e.kind == 3)=false:=Ud;have t4:(e.kind == 4)=false:=Ud;have t5:(e.kind == 5)=false:=Ud;have t6:(e.kind == 6)=false:=Ud;have t7:(e.kind == 7)=false:=Ud;have t8:(e.kind == 8)=true:=Ud
 by_cases hl:e.sub.length=1
 ·exact Tr
 ·exact B9
theorem Jyy (e:Ex) (A:Option Addr) (cap:Nat) (w:World) (bg:I32 e.n) (hk:e.kind=9) :
  Calls Tryz.prog 161 #[exV e A cap] w fun r w'=>r = .returned (.bool (Jl e.kind e.n e.name e.sub.length))/\Below w.heap.size w w':=by
 unfold I32 at bg;obtain⟨eR,eu⟩:=bg;have aL:=fun W=>Xt e.name W;have cp:=fun W=>Yf e.kind W;have jq:Jd4 e.kind=false:=Ud;rw [jq] at cp;have t1:(e.kind == 1)=false:=Ud;have t2:(e.kind == 2)=false:=Ud;have t3:(e.kind == 3)=false:=Ud;have t4:(e.kind == 4)=false:=Ud;have t5:(e.kind == 5)=false:=Ud;have t6:(e.kind == 6)=false:=Ud;have t7:(e.kind == 7)=false:=Ud;have t8:(e.kind == 8)=false:=Ud;have t9:(e.kind == 9)=true:=Ud
 by_cases hl:e.sub.length=1
 ·exact Tr
 ·exact B9
theorem Jv7 (e:Ex) (A:Option Addr) (cap:Nat) (w:World) (bg:I32 e.n) (hk:e.kind=10) :
  Calls Tryz.prog 161 #[exV e A cap] w fun r w'=>r = .returned (.bool (Jl e.kind e.n e.name e.sub.length))/\Below w.heap.size w w':=by
 unfold I32 at bg;obtain⟨eR,eu⟩:=bg;have aL:=fun W=>Xt e.name W;have cp:=fun W=>Yf e.kind W;have jq:Jd4 e.kind=false:=Ud;rw [jq] at cp;have t1:(e.kind == 1)=false:=Ud;have t2:(e.kind == 2)=false:=Ud;have t3:(e.kind == 3)=false:=Ud;have t4:(e.kind == 4)=false:=Ud;have t5:(e.kind == 5)=false:=Ud;have t6:(e.kind == 6)=false:=Ud;have t7:(e.kind == 7)=false:=Ud;have t8:(e.kind == 8)=false:=Ud;have t9:(e.kind == 9)=false:=Ud;have t10:(e.kind == 10)=true:=Ud
 by_cases hl:e.sub.length=2
 ·have l1:((e.sub.length:Int) == 2)=true:=Dd;exact Tt
 ·exact Uaa
theorem Jst (e:Ex) (A:Option Addr) (cap:Nat) (w:World) (hk:∀k:Int,1<=k->k<=10->e.kind≠k) :
  Calls Tryz.prog 161 #[exV e A cap] w fun r w'=>r = .returned (.bool (Jl e.kind e.n e.name e.sub.length))/\Below w.heap.size w w':=by
 have t1:(e.kind == 1)=false:=by simpa using hk 1 Ua Ua
 have t2:(e.kind == 2)=false:=by simpa using hk 2 Ua Ua
 have t3:(e.kind == 3)=false:=by simpa using hk 3 Ua Ua
 have t4:(e.kind == 4)=false:=by simpa using hk 4 Ua Ua
 have t5:(e.kind == 5)=false:=by simpa using hk 5 Ua Ua
 have t6:(e.kind == 6)=false:=by simpa using hk 6 Ua Ua
 have t7:(e.kind == 7)=false:=by simpa using hk 7 Ua Ua
 have t8:(e.kind == 8)=false:=by simpa using hk 8 Ua Ua
 have t9:(e.kind == 9)=false:=by simpa using hk 9 Ua Ua
 have t10:(e.kind == 10)=false:=by simpa using hk 10 Ua Ua
 have hv:Jl e.kind e.n e.name e.sub.length=false:=by
  unfold Jl Jw;simp only [beq_eq_false_iff_ne] at t1 t2 t3 t4 t5 t6 t7 t8 t9 t10;simp [t1,t2,t3,t4,t5,t6,t7,t8,t9,t10]
 clear hk;have HV:=Lib.hid hv;clear hv;unfold exV
 go_enter Tryz.func161,Tryz.ntmps161
 go_wp2_with fail
 go_ret;exact⟨Jk HV.out.symm,Jb⟩
theorem Jty (e:Ex) (A:Option Addr) (cap:Nat) (w:World) (bg:I32 e.n) :
  Calls Tryz.prog 161 #[exV e A cap] w fun r w'=>r = .returned (.bool (Jl e.kind e.n e.name e.sub.length))/\Below w.heap.size w w':=by
 by_cases h1:e.kind=1
 ·exact Jyz e A cap w bg h1
 by_cases h2:e.kind=2
 ·exact Jym e A cap w bg h2
 by_cases h3:e.kind=3
 ·exact Jye e A cap w bg h3
 by_cases h4:e.kind=4
 ·exact Jx6 e A cap w bg h4
 by_cases h5:e.kind=5
 ·exact Jys e A cap w bg h5
 by_cases h6:e.kind=6
 ·exact Jyo e A cap w bg h6
 by_cases h7:e.kind=7
 ·exact Jyn e A cap w bg h7
 by_cases h8:e.kind=8
 ·exact Jx8 e A cap w bg h8
 by_cases h9:e.kind=9
 ·exact Jyy e A cap w bg h9
 by_cases bM:e.kind=10
 ·exact Jv7 e A cap w bg bM
 exact Jst e A cap w fun k h1 h2=>Ua
theorem Jeo:∀(l:List Ex) (a:Int),0<=a->Ex.depthL l a=max a (Ex.depthL l 0)
 | [],a,h=>by simp [Ex.depthL];omega
 | x :: l,a,h=>by
  have hx:=Ex.depth_bd x;rw [Ex.depthL,Ex.depthL,Jeo l (max a x.depth) Ua,Jeo l (max 0 x.depth) Ua];exact Ua
theorem Jvn:∀(l:List Ex),0<=Ex.depthL l 0:=fun l=>by
 cases l with
 | nil=>simp [Ex.depthL]
 | cons x l=>have:=(Jhw (x :: l) 0 x Ul).2;omega
def Y6 (e:Ex) (most:Int):Int:=min (max 1 most) e.depth
theorem Jxd (e:Ex):∀(A:Option Addr) (cap:Nat) (most:Int) (w:World),Jt w e A cap->-1000<=most->most<=1000->
  Calls Tryz.prog 138 #[exV e A cap,.int .i64 most] w fun r w'=>r = .returned (.int .i64 (Y6 e most))/\Below w.heap.size w w':=by
 induction e using Ex.ind with
 | h e ih=>
 intro A cap most w he hm cI;have hl:=he.len;unfold maxLen at hl;obtain⟨bI,aD⟩:=hl;have qY:=Ex.depth_bd e
 by_cases h1:most<=1
 ·have hv:Y6 e most=1:=by unfold Y6;omega
  have HV:=Lib.hid hv;clear hv;unfold exV
  go_enter Tryz.func138,Tryz.ntmps138
  exact Uc9
 have h1':¬most<=1:=h1;unfold exV
 go_enter Tryz.func138,Tryz.ntmps138
 go_wp2_with fail
 refine Jo fun W0 ag=>?_;have ax:Below w.heap.size w W0:=Uo;have bD:w.heap.size<W0.heap.size:=La;have p3:W0.cell? ⟨w.heap.size,3,none⟩=some (.slice A e.sub.length cap):=Uc;clear ag;replace he:=he.later ax
 go_loopw [5,6] (fun m i wr=>∃(k:Nat) (m':Int),k<=e.sub.length/\i = .int .i64 k/\m = .int .i64 m'/\0<=m'/\m'<=most-1/\min (most-1) (Ex.depthL (e.sub.drop k) m')+1=Y6 e most/\Below W0.heap.size W0 wr) (fun _ i _=>e.sub.length-(intOf i).toNat)
 case atStart=>exact⟨0,0,Nat.zero_le _,rfl,rfl,Ua,Ua,by unfold Y6;rw [Ex.depth_eq,List.drop_zero];omega,Below.refl _ _⟩
 case round=>
  obtain⟨k,m',hk,rfl,rfl,h0,h2,aa,ab⟩:=hrel;have hc:=Jg ab;have bu:=ab.size
  by_cases am:k<e.sub.length
  ·obtain⟨x,hx,aj,hd⟩:=Kl am;obtain⟨b,off,A',cap',rfl,c0,c1,c2,c3,hs⟩:=(he.later ab).get hx;rw [hd,Ex.depthL] at aa;have ihx:=fun W h=>ih x aj A' cap' (most-1) W h Ua Ua;have hdx:=Ex.depth_bd x;have qW:=Jvn (e.sub.drop (k+1));rw [Jeo _ _ Ua] at aa;have oH:Y6 x (most-1)=min (most-1) x.depth:=by unfold Y6;omega
   have mH:=Jeo (e.sub.drop (k+1));generalize hD:Ex.depthL (e.sub.drop (k+1)) 0=D at aa qW mH
   by_cases hgt:m'<Y6 x (most-1)
   ·have bH:min (most-1) (Ex.depthL (e.sub.drop (k+1)) (Y6 x (most-1)))+1=Y6 e most:=by
     rw [mH _ Ua,<-aa,oH];omega
    have ac:0<=Y6 x (most-1):=Ua;have aq:Y6 x (most-1)<=most-1:=Ua;exact Ua4
   ·have bH:min (most-1) (Ex.depthL (e.sub.drop (k+1)) m')+1=Y6 e most:=by
     rw [mH _ Ua,<-aa];rw [oH] at hgt;omega
    exact Ua4
  ·have bk:k=e.sub.length:=Ua;rw [bk,List.drop_length,Ex.depthL] at aa;have bH:m'+1=Y6 e most:=Ua;have HR:=Lib.hid bH;clear aa bk bH;exact Uda
theorem Jo7 (x:Ex) (l:List Ex):Ex.formedL (x :: l)=(x.formed && Ex.formedL l):=by rw [Ex.formedL]
theorem Jsd (e:Ex):∀(A:Option Addr) (cap:Nat) (w:World),Jt w e A cap->e.OK->
  Calls Tryz.prog 139 #[exV e A cap] w fun r w'=>r = .returned (.bool e.formed)/\Below w.heap.size w w':=by
 induction e using Ex.ind with
 | h e ih=>
 intro A cap w he aw;have hl:=he.len;unfold maxLen at hl;obtain⟨bI,aD⟩:=hl;have hI:I32 e.n:=by cases e;simp only [Ex.OK,Ex.n] at *;exact aw.2.1
 have vW:=fun W=>Jty e A cap W hI;have hv:e.formed=(Jl e.kind e.n e.name e.sub.length && Ex.formedL e.sub):=Ex.formed_eq e;have HSUB:=Lib.hid (fun x hx=>Ex.OK_sub aw (x:=x) hx);clear aw hI;generalize Jl e.kind e.n e.name e.sub.length=hf at *;have HV:=Lib.hid hv;clear hv;unfold exV at *
 go_enter Tryz.func139,Tryz.ntmps139
 go_wp2_with (first|(go_at_call 161;refine(vW _).mono ?_;rintro r w1 ⟨rfl,ac⟩;have ⟨ak,af⟩:=aft ac;(try simp at af);(try have bV:=lt0 w w1);(try have gq:=ltA w 1 w1);(try have ow:=ltA w 2 w1);(try have ns:=lt0 wr w1);(try have nt:=ltA wr 1 w1)))
 refine Jo fun W0 ag=>?_;have ax:Below w.heap.size w W0:=Uo;have bD:w.heap.size<W0.heap.size:=Lk;have p3:W0.cell? ⟨w.heap.size,3,none⟩=some (.slice A e.sub.length cap):=Uc;clear ag;replace he:=he.later ax
 go_loopw [3,4] (fun b i wr=>∃(k:Nat) (bb:Bool),k<=e.sub.length/\i = .int .i64 k/\b = .bool bb/\(bb && Ex.formedL (e.sub.drop k))=e.formed/\Below W0.heap.size W0 wr) (fun _ i _=>e.sub.length-(intOf i).toNat)
 case atStart=>exact⟨0,hf,Nat.zero_le _,rfl,rfl,Vi,Below.refl _ _⟩
 case round=>
  obtain⟨k,bb,hk,rfl,rfl,aa,ab⟩:=hrel;have hc:=Jg ab;have bu:=ab.size;have fF:w.heap.size<wr.heap.size:=Ua
  by_cases am:k<e.sub.length
  ·cases bb
   ·have HR:=Lib.hid aa;clear aa
    go_wp2_with fail
    exact Udg
   ·obtain⟨x,hx,aj,hd⟩:=Kl am;obtain⟨b,off,A',cap',rfl,c0,c1,c2,c3,hs⟩:=(he.later ab).get hx;rw [hd,Jo7,Bool.true_and] at aa;have ihx:=fun W h=>ih x aj A' cap' W h (HSUB.out x aj);unfold exV at ihx;generalize x.formed=xf at *;have HR:=Lib.hid aa;clear aa hd hx
    go_wp2_with (first|(go_at_call 139;refine(ihx _ (hs.later Jb)).mono ?_;rintro r w1 ⟨rfl,ac⟩;have ⟨ak,af⟩:=aft ac;(try simp at af);(try have bV:=lt0 w w1);(try have gq:=ltA w 1 w1);(try have ow:=ltA w 2 w1);(try have ns:=lt0 wr w1);(try have nt:=ltA wr 1 w1)))
    exact Ueg
  ·have bk:k=e.sub.length:=Ua;rw [bk,List.drop_length,Ex.formedL,Bool.and_true] at aa;have HR:=Lib.hid aa;clear aa bk
   go_wp2_with fail
   exact Udg
theorem Jdb (e:Ex) (A:Option Addr) (cap:Nat) (w:World) (he:Jt w e A cap) (aw:e.OK) :
  Calls Tryz.prog 119 #[exV e A cap] w fun r w'=>r = .returned (.int .i64 e.right)/\Below w.heap.size w w':=by
 have hv:e.right=if 120<e.count 121 then 3 else if 12<e.depth then 17 else if e.formed then 0 else 4:=rfl;have av:=fun W h=>Jf2 e A cap 121 W (he.later h) Ua Ua;have qG:=fun W h=>Jxd e A cap 13 W (he.later h) Ua Ua;have iB:=fun W h=>Jsd e A cap W (he.later h) aw;have oH:12<Y6 e 13<->12<e.depth:=by unfold Y6;omega
 clear aw;unfold exV at *
 by_cases h1:120<e.count 121
 ·rw [if_pos h1] at hv;have HV:=Lib.hid hv;clear hv;clear oH;generalize e.count 121=c1 at *
  go_enter Tryz.func119,Tryz.ntmps119
  go_wp2_with (first|(go_at_call 16;refine(av _ Jb).mono ?_;rintro r w1 ⟨rfl,ac⟩;have ⟨ak,af⟩:=aft ac;(try simp at af);(try have bV:=lt0 w w1);(try have gq:=ltA w 1 w1);(try have ow:=ltA w 2 w1);(try have ns:=lt0 wr w1);(try have nt:=ltA wr 1 w1)))
  exact Udf
 rw [if_neg h1] at hv
 by_cases h2:12<e.depth
 ·rw [if_pos h2] at hv;have tA:=oH.2 h2;have HV:=Lib.hid hv;clear hv;clear oH;generalize e.count 121=c1 at *;generalize Y6 e 13=c2 at *
  go_enter Tryz.func119,Tryz.ntmps119
  go_wp2_with (first|(go_at_call 16;refine(av _ Jb).mono ?_;rintro r w1 ⟨rfl,ac⟩;have ⟨ak,af⟩:=aft ac;(try simp at af);(try have bV:=lt0 w w1);(try have gq:=ltA w 1 w1);(try have ow:=ltA w 2 w1);(try have ns:=lt0 wr w1);(try have nt:=ltA wr 1 w1))|(go_at_call 138;refine(qG _ Jb).mono ?_;rintro r w1 ⟨rfl,ac⟩;have ⟨ak,af⟩:=aft ac;(try simp at af);(try have bV:=lt0 w w1);(try have gq:=ltA w 1 w1);(try have ow:=ltA w 2 w1);(try have ns:=lt0 wr w1);(try have nt:=ltA wr 1 w1)))
  exact Udf
 rw [if_neg h2] at hv;have tA:¬12<Y6 e 13:=fun h=>h2 (oH.1 h);clear oH
 cases h3:e.formed
 ·rw [h3,if_neg Ul] at hv;exact Ufb
 ·rw [h3,if_pos rfl] at hv;exact Ufb
def Jxl (l:List Va) (A:Option Addr) (cap:Nat) (x:Ex):Prop:=∀(A':Option Addr) (c':Nat) (ck:Int) (cn:ByteArray) (W:World),Jt W x A' c'->Ju W l A cap->
  Calls Tryz.prog 120 #[exV x A' c',.agg #[.int .i64 ck,.string cn],.slice A l.length cap] W fun r w'=>r = .returned (.int .i64 (x.clk l (ck,cn)))/\Below W.heap.size W w'
theorem Jw4 (e:Ex):e.formed=true->∀(l:List Va) (A:Option Addr) (cap:Nat),Jxl l A cap e:=by
 induction e using Ex.ind with
 | h e ih0=>
 intro hf l A cap Ae ce ck cn w he hl;have ih:∀x∈e.sub,Jxl l A cap x:=fun x hx=>ih0 x hx (Ex.formed_sub hf hx) l A cap;have hR:=Lib.hid (Jxr (l:=l) hf (ck,cn))
 have fD:e.sub.length<=3:=by
  have ai:=(Ex.formed_kind hf).1;unfold Jw at ai
  repeat' split at ai
  all_goals first|omega|(simp at ai;omega)
 have ae:=fun W h=>Js7 e Ae ce ck cn l A cap W (hl.later h);have hwith:=fun W=>Jg4 e Ae ce ck cn W Ua;have ai:=he.len;unfold maxLen at ai;obtain⟨bI,aD⟩:=ai;clear ih0 hf;unfold exV at *;generalize zb:Jec l e.kind e.name (ck,cn)=f0 at *;clear zb
 go_enter Tryz.func120,Tryz.ntmps120
 go_wp2_with (first|(go_at_call 140;refine(ae _ Jb).mono ?_;rintro r w1 ⟨rfl,ac⟩;have ak:=Jg ac;have af:=ac.size;(try simp at af);have jl:w.heap.size<w1.heap.size:=Ua;have bV:w.heap.size+1<w1.heap.size:=Ua)|(go_at_call 56;refine(hwith _).mono ?_;rintro r w2 ⟨⟨v,rfl,ay⟩,aq⟩;have dm:=Jg aq;have br:=aq.size;have gq:w.heap.size<w2.heap.size:=Ua;have ow:w.heap.size+1<w2.heap.size:=Ua))
 refine Jo fun W0 ag=>?_;have ax:Below w.heap.size w W0:=Uo;have bD:w.heap.size<W0.heap.size:=Us;have p3:W0.cell? ⟨w.heap.size,3,none⟩=some (.slice Ae e.sub.length ce):=Uc;have mV:W0.ownsRow w1.heap.size 55 2 v e.sub.length (Yx e.kind e.name (ck,cn) e.sub.length):=by rw [ag];exact ay
 clear ag ak dm ay;have he0:=he.later ax;have eb:=hl.later ax
 go_loopw [7,9] (fun f i wr=>∃(k:Nat) (g:Int),k<=e.sub.length/\i = .int .i64 k/\f = .int .i64 g/\(if g≠0 then g else Jf7 l e.kind e.name (ck,cn) k (e.sub.drop k))=e.clk l (ck,cn)/\Below W0.heap.size W0 wr) (fun _ i _=>e.sub.length-(intOf i).toNat)
 case atStart=>exact⟨0,f0,Nat.zero_le _,rfl,rfl,by rw [hR.out];rfl,Below.refl _ _⟩
 case round=>
  obtain⟨k,g,hk,rfl,rfl,aa,ab⟩:=hrel;have hc:=Jg ab;have bu:=ab.size;have eV:w.heap.size<wr.heap.size:=Ua
  by_cases hg:g=0
  ·have g0:(g == 0)=true:=by simpa using hg
   rw [if_neg Ua] at aa
   by_cases am:k<e.sub.length
   ·have hx:e.sub[k]?=some e.sub[k]:=List.getElem?_eq_getElem am;have aj:e.sub[k]∈e.sub:=List.getElem_mem am;have hd:e.sub.drop k=e.sub[k] :: e.sub.drop (k+1):=List.drop_eq_getElem_cons am;generalize e.sub[k]=x at hx aj hd;obtain⟨b,off,A',cap',rfl,c0,c1,c2,c3,hs⟩:=(he0.later ab).get hx;have aC:b<wr.heap.size:=block_lt_of_cell c0;rw [hd,Jf7] at aa;obtain⟨gb,gc,rfl,eN,aG,bJ,cg,ah⟩:=Kc (Jy mV ab) Ua;have aY:=Jfy e.kind e.name (ck,cn) am;have e0:=ah _ _ aY.1;have e1:=ah _ _ aY.2;unfold maxLen at cg;generalize K4 e.kind e.name (ck,cn) k=wc at aa e0 e1;obtain⟨wk,ws⟩:=wc;dsimp only at aa e0 e1;have ix:=fun W h=>ih x aj A' cap' wk ws W (hs.later h) ((eb.later ab).later h);unfold exV at ix;have xg:k<e.sub.length:=am;clear hd hx aY ah hg
    by_cases hz:x.clk l (wk,ws)=0
    ·rw [if_neg Ua] at aa;have HR:=Lib.hid aa;clear aa;have HZ:=Lib.hid hz;clear hz
     go_wp2_with fail
     refine Jx Ug Ug (fun bj=>?_)
     repeat (quiet_step ((first|(go_at_call 120;exact Calls.regrown_of (ix _ Jb)))))
     refine wpQuiet_nil ?_;intro wq au;replace au:=qbo au;obtain⟨au,dA,bh⟩:=au;clear bj
     (try simp at bh)
     go_wp2_with fail
     go_roundw
     case rel=>exact⟨k+1,x.clk l (wk,ws),Ua,Up,rfl,by rw [if_neg (by have:=HZ.out;omega)];exact HR.out,Jb⟩
     case measure=>simp [intOf];omega
    ·rw [if_pos hz] at aa;have HR:=Lib.hid aa;clear aa;have HZ:=Lib.hid hz;clear hz
     go_wp2_with fail
     refine Jx Ug Ug (fun bj=>?_)
     repeat (quiet_step ((first|(go_at_call 120;exact Calls.regrown_of (ix _ Jb)))))
     refine wpQuiet_nil ?_;intro wq au;replace au:=qbo au;obtain⟨au,dA,bh⟩:=au;clear bj
     (try simp at bh)
     go_wp2_with fail
     go_roundw
     case rel=>exact⟨k+1,x.clk l (wk,ws),Ua,Up,rfl,by rw [if_pos HZ.out];exact HR.out,Jb⟩
     case measure=>simp [intOf];omega
   ·obtain rfl:k=e.sub.length:=Ua;rw [List.drop_length,Jf7] at aa;subst hg;have HR:=Lib.hid aa;clear aa;exact Uda
  ·have g0:(g == 0)=false:=by simpa using hg
   rw [if_pos hg] at aa;have HR:=Lib.hid aa;clear aa hg
   by_cases am:k<e.sub.length
   ·exact Uda
   ·exact Uda
theorem Jpl (e:Ex) (aw:e.OK) (Ae:Option Addr) (ce:Nat) (ck:Int) (cn:ByteArray) (l:List Va) (A:Option Addr) (cap:Nat) (w:World) (he:Jt w e Ae ce) (hl:Ju w l A cap) :
  Calls Tryz.prog 86 #[exV e Ae ce,.agg #[.int .i64 ck,.string cn],.slice A l.length cap] w fun r w'=>r = .returned (.int .i64 (Jhk l e (ck,cn)))/\Below w.heap.size w w':=by
 have aB:=fun W h=>Jdb e Ae ce W (he.later h) aw;clear aw
 by_cases hr:e.right=0
 ·have ix:=fun W h1 h2=>Jw4 e ((Ex.right_zero.1 hr).2.2) l A cap Ae ce ck cn W h1 h2;have hv:Jhk l e (ck,cn)=e.clk l (ck,cn):=by unfold Jhk;rw [if_neg Ua]
  have h1:(e.right != 0)=false:=Dq;clear hr;have HV:=Lib.hid hv;clear hv;unfold exV at *
  go_enter Tryz.func86,Tryz.ntmps86
  go_wp2_with (first|(go_at_call 119;refine(aB _ Jb).mono ?_;rintro r w1 ⟨rfl,ac⟩;have ⟨ak,af⟩:=aft ac;(try simp at af))|(go_at_call 120;refine(ix _ (he.later Jb) (hl.later Jb)).mono ?_;rintro r wc ⟨rfl,bU⟩))
  exact Udf
 ·have hv:Jhk l e (ck,cn)=e.right:=by unfold Jhk;rw [if_pos hr]
  have h1:(e.right != 0)=true:=Dq;clear hr;have HV:=Lib.hid hv;clear hv;unfold exV at *
  go_enter Tryz.func86,Tryz.ntmps86
  go_wp2_with (first|(go_at_call 119;refine(aB _ Jb).mono ?_;rintro r w1 ⟨rfl,ac⟩;have ⟨ak,af⟩:=aft ac;(try simp at af)))
  exact Udf
end Go.Proofs.YtknfcamdfdfoeaaGreatDoor
