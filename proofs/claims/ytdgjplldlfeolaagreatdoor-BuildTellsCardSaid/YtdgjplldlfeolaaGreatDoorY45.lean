/- Lemmas. -/
import Derived.Test.YtdgjplldlfeolaaGreatDoorMac
import Derived.Test.YtdgjplldlfeolaaGreatDoorY43
import Derived.Test.YtdgjplldlfeolaaGreatDoorY23
import Derived.Test.YtdgjplldlfeolaaGreatDoorY14
import Derived.Test.YtdgjplldlfeolaaGreatDoorY19
import Derived.Test.YtdgjplldlfeolaaGreatDoorY30
import Derived.Deep.CutRange
import Derived.Deep.RegionLaw
import Derived.Test.YtdgjplldlfeolaaGreatDoorY00
import Derived.Test.YtdgjplldlfeolaaGreatDoorRows
import Derived.Test.YtdgjplldlfeolaaGreatDoorY02
import Derived.Test.YtdgjplldlfeolaaGreatDoorY01
import Derived.Test.YtdgjplldlfeolaaGreatDoorY08
import Derived.Test.YtdgjplldlfeolaaGreatDoorY32
import Derived.Test.YtdgjplldlfeolaaGreatDoorY36
import Derived.Test.YtdgjplldlfeolaaGreatDoorY09
import Derived.Test.YtdgjplldlfeolaaGreatDoorY37
import Derived.Test.YtdgjplldlfeolaaGreatDoorY12
import Derived.Lib.SmallJoins
import Derived.Test.YtdgjplldlfeolaaGreatDoorY40
set_option linter.unusedVariables false
set_option linter.unusedSimpArgs false
set_option maxRecDepth 100000
set_option maxHeartbeats 64000000
namespace Go.Proofs.YtdgjplldlfeolaaGreatDoor
open Go.RowKit Go.Sort
theorem Jxg (a b:Int) (w:World):(Op.equalIn 10000 122 (.agg #[.int .i64 a,.int .i32 b]) (.agg #[.int .i64 a,.int .i32 b])).run Tryz.prog w = .ok true w:=by
 have hS:Tryz.prog.underlying 122=some (.struct (Tryz.prog.fieldsOf 122)):=Ue;have hp:Tryz.prog.stoodInHeld 122=false:=Ue;rw [show(10000:Nat)=9999+1 from rfl,run_equalIn_agg w 9999 122 _ _ hS hp];simp only [Program.fieldsOf,Tryz.underlying122];exact Uc
theorem Jra (a b c d e:Int) (w:World):(Op.equalIn 10000 25 (.agg #[.int .i64 a,.int .i64 b,.int .i64 c,.int .i64 d,.int .i64 e]) (.agg #[.int .i64 a,.int .i64 b,.int .i64 c,.int .i64 d,.int .i64 e])).run Tryz.prog w = .ok true w:=by
 have hS:Tryz.prog.underlying 25=some (.struct (Tryz.prog.fieldsOf 25)):=Ue;have hp:Tryz.prog.stoodInHeld 25=false:=Ue;rw [show(10000:Nat)=9999+1 from rfl,run_equalIn_agg w 9999 25 _ _ hS hp];simp only [Program.fieldsOf,Tryz.underlying25];exact Uc
theorem Jqh (l:List (Int×Int)) (A:Option Addr) (cap:Nat) (B:Option Addr) (capB:Nat) (w:World) (h1:Kos w l A cap) (h2:Kos w l B capB) :
  Calls Tryz.prog 27 #[.slice A l.length cap,.slice B l.length capB] w fun r w'=>r = .returned (.bool true)/\Below w.heap.size w w':=by
 have l1:=h1.1;have l2:=h2.1;have m1:=h1.2.1;have m2:=h2.2.1;unfold maxLen at m1 m2;have fM:Tryz.prog.eqGuardType Tryz.prog.depth 122=false:=Ue
 go_enter Tryz.func27,Tryz.ntmps27
 go_wp2_with fail
 go_loopw [5] (fun i wr=>∃(k:Nat),k<=l.length/\i = .int .i64 k/\Below w.heap.size w wr) (fun i _=>l.length-(intOf i).toNat)
 case atStart=>exact⟨0,Np,rfl,Nt⟩
 case round=>
  obtain⟨k,hk,rfl,ab⟩:=hrel
  by_cases am:k<l.length
  ·have hx:l[k]?=some l[k]:=Ng am;generalize l[k]=x at hx;have aY:=Joi l k x hx;obtain⟨b,off,rfl,cB⟩:=(h1.later ab).2.2.2 Ua;obtain⟨b2,off2,rfl,oP⟩:=(h2.later ab).2.2.2 Ua;have d0:=cB _ _ aY.1;have d1:=Nb wr b (off+k * 2+1) (.int .i32 x.2) (cB _ _ aY.2);have e0:=oP _ _ aY.1;have e1:=Nb wr b2 (off2+k * 2+1) (.int .i32 x.2) (oP _ _ aY.2);obtain⟨x1,x2⟩:=x;dsimp only at d0 d1 e0 e1;have dp:=fun w=>Jxg x1 x2 w;have aH:=Nu d0;have bG:=Nu e0;clear hx aY cB oP;exact Uaw
  ·obtain rfl:k=l.length:=Ua
   go_wp2_with fail
   go_ret;exact⟨rfl,ab⟩
theorem Kq3 (m:Im) (a:ImA) (w:World) (hm:Jd5 w m a) (aw:Jsj m) (hw:m.wrong=0) (hb:¬2016<(Jba m).length) :
  Calls Tryz.prog 12 #[imV m a] w fun r w'=>(∃A cap,r = .returned (.tuple #[.slice A (Jba m).length cap,.int .i64 0])/\Qc w' (byU (Jba m)) (Jba m).length A cap)/\Below w.heap.size w w':=by
 have aN:=fun W (h:Below w.heap.size w W)=>Jqe m a W (hm.later h) aw;have hl:=fun W (h:Below w.heap.size w W)=>Juu m a W (hm.later h) aw (Im.right hw);rw [hw] at aN;have tb:¬(2016:Int)<((Jba m).length:Int):=Ua;obtain⟨A1,c1,A2,c2,A3,c3⟩:=a;unfold imV at *;dsimp only at *;generalize byU (Jba m)=bs at *;generalize (Jba m).length=n at *;clear hm aw hw hb
 go_enter Tryz.func12,Tryz.ntmps12
 go_wp2_with (first
  | (go_at_call 14;go_loud (refine(aN _ Jb).mono ?_;rintro r w1 ⟨rfl,ac⟩;have k0:=Jg ac))
  | (go_at_call 30;go_loud (refine(hl _ Jb).mono ?_;rintro r w2 ⟨⟨A,cap,rfl,aY⟩,aq⟩)))
 go_ret2
 exact⟨⟨A,cap,rfl,aY.later Jb⟩,Jb⟩
theorem Kbs (m:Im) (a b:ImA) (w:World) (ha:Jd5 w m a) (hb:Jd5 w m b) :
  Calls Tryz.prog 9 #[imV m a,imV m b] w fun r w'=>r = .returned (.bool true)/\Below w.heap.size w w':=by
 have h1:=fun W (h:Below w.heap.size w W)=>Kct m.first a.A1 a.c1 b.A1 b.c1 W (ha.first.later h) (hb.first.later h);have h2:=fun W (h:Below w.heap.size w W)=>Jqh m.step a.A2 a.c2 b.A2 b.c2 W (ha.step.later h) (hb.step.later h);have h3:=fun W (h:Below w.heap.size w W)=>Jqh m.move a.A3 a.c3 b.A3 b.c3 W (ha.move.later h) (hb.move.later h);have H1:=Nf h1;have H2:=Nf h2;have H3:=Nf h3;have uf:=fun w=>Jra m.fr.s m.fr.o m.fr.n m.fr.i m.fr.u w;have fM:Tryz.prog.eqGuardType Tryz.prog.depth 25=false:=Ue;clear ha hb h1 h2 h3;obtain⟨A1,c1,A2,c2,A3,c3⟩:=a;obtain⟨B1,d1,B2,d2,B3,d3⟩:=b;unfold imV;dsimp only at *
 go_enter Tryz.func9,Tryz.ntmps9
 go_upto_region 1 with fail
 refine Jo fun W0 ag=>?_;have HX:Hid (ImB W0 w.heap.size (imC m ⟨A1,c1,A2,c2,A3,c3⟩)):=by rw [ag];exact Nf ((ImB.new _ _ _).later (Jc (Nt) _))
 have HY:Hid (ImB W0 (w.heap.size+1) (imC m ⟨B1,d1,B2,d2,B3,d3⟩)):=by
  rw [ag];have:=ImB.new (w.alloc (.cells (imC m ⟨A1,c1,A2,c2,A3,c3⟩).toArray 29)) (imC m ⟨B1,d1,B2,d2,B3,d3⟩) 29;rw [show(w.alloc (.cells (imC m ⟨A1,c1,A2,c2,A3,c3⟩).toArray 29)).heap.size=w.heap.size+1 by simp] at this;exact Nf this
 have aC:=Nd w W0 Uz;have x0:=HX.out 0 _ rfl;have x1:=HX.out 1 _ rfl;have x2:=HX.out 2 _ rfl;have x3:=HX.out 3 _ rfl;have x4:=HX.out 4 _ rfl;have x5:=HX.out 5 _ rfl;have x6:=HX.out 6 _ rfl;have x7:=HX.out 7 _ rfl;have x8:=HX.out 8 _ rfl;have y0:=HY.out 0 _ rfl;have y1:=HY.out 1 _ rfl;have y2:=HY.out 2 _ rfl;have y3:=HY.out 3 _ rfl;have y4:=HY.out 4 _ rfl;have y5:=HY.out 5 _ rfl;have y6:=HY.out 6 _ rfl;have y7:=HY.out 7 _ rfl;have y8:=HY.out 8 _ rfl;clear ag
 go_wp2_with (first
  | (have hg:=aq;go_at_call 27;go_loud (refine(H3.out _ (Jd (Jd aC ac) aq)).mono ?_;rintro r w3 ⟨rfl,aM⟩;have x11:=Ja (Jd (Jd ac aq) aM) (HX.out 11 _ rfl);have y11:=Ja (Jd (Jd ac aq) aM) (HY.out 11 _ rfl);have x12:=Ja (Jd (Jd ac aq) aM) (HX.out 12 _ rfl);have y12:=Ja (Jd (Jd ac aq) aM) (HY.out 12 _ rfl)))
  | (have hg:=ac;go_at_call 27;go_loud (refine(H2.out _ (Jd aC ac)).mono ?_;rintro r w2 ⟨rfl,aq⟩;have x10:=Ja (Jd ac aq) (HX.out 10 _ rfl);have y10:=Ja (Jd ac aq) (HY.out 10 _ rfl)))
  | (go_at_call 26;go_loud (refine(H1.out _ aC).mono ?_;rintro r w1 ⟨rfl,ac⟩;have x9:=Ja ac (HX.out 9 _ rfl);have y9:=Ja ac (HY.out 9 _ rfl))))
 go_ret;exact⟨rfl,Jd (Jd (Jd aC ac) aq) aM⟩
end Go.Proofs.YtdgjplldlfeolaaGreatDoor
