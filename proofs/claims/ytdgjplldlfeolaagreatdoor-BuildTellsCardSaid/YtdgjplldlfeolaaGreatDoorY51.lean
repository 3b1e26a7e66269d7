/- Lemmas. -/
import Derived.Test.YtdgjplldlfeolaaGreatDoorMac
import Derived.Test.YtdgjplldlfeolaaGreatDoorY49
import Derived.Test.YtdgjplldlfeolaaGreatDoorY50
import Derived.Test.YtdgjplldlfeolaaGreatDoorY45
import Derived.Test.YtdgjplldlfeolaaGreatDoorY48
set_option linter.unusedVariables false
set_option linter.unusedSimpArgs false
set_option maxRecDepth 100000
set_option maxHeartbeats 64000000
namespace Go.Proofs.YtdgjplldlfeolaaGreatDoor
open Go.RowKit Go.Sort
theorem Kro (a b c:Int) (h:c≠0) (w:World):(Op.equalIn 10000 32 (.agg #[.int .i64 a,.int .i64 b,.int .i64 c]) (.agg #[.int .i64 0,.int .i64 0,.int .i64 0])).run Tryz.prog w = .ok false w:=by
 rw [Zr,show(c == 0)=false by simpa using h,Bool.and_false]
def Kp7 (a b c:ByteArray):Bool:=decide (a.size<=20000) && decide (b.size<=20000) && decide (c.size<=20000)
theorem Krs (a b c:ByteArray) (fro ver:Int) (w:World):Calls Tryz.prog 10 #[.agg #[.string a,.string b,.string c,.int .u32 fro,.int .u32 ver]] w fun r w'=>r = .returned (.bool (Kp7 a b c))/\Below w.heap.size w w':=by
 have e1:decide ((a.size:Int)<=20000)=decide (a.size<=20000):=by by_cases h:a.size<=20000 <;> simp [h] <;> omega
 have e2:decide ((b.size:Int)<=20000)=decide (b.size<=20000):=by by_cases h:b.size<=20000 <;> simp [h] <;> omega
 have e3:decide ((c.size:Int)<=20000)=decide (c.size<=20000):=by by_cases h:c.size<=20000 <;> simp [h] <;> omega
 unfold Kp7;generalize decide (a.size<=20000)=x1 at *;generalize decide (b.size<=20000)=x2 at *;generalize decide (c.size<=20000)=x3 at *
 cases x1 <;> cases x2 <;> cases x3
 all_goals
  go_enter Tryz.func10,Tryz.ntmps10
  go_wp2_with fail
  go_ret;exact⟨rfl,Jb⟩
theorem Kr9 (a b c:ByteArray) (fro ver:Int) (w:World) (hg:Ql w) (hfro:0<=fro/\fro<4294967296) (hver:0<=ver/\ver<4294967296) :
  Calls Tryz.prog 4 #[.agg #[.string a,.string b,.string c,.int .u32 fro,.int .u32 ver]] w fun r w'=>r = .returned (.bool true)/\Below w.heap.size w w':=by
 have xg:=fun W (h:Below w.heap.size w W)=>Kka W (hg.later h);have hli:=fun W=>Krs a b c fro ver W;have HKN:=Nf xg
 cases hL:Kp7 a b c
 case false=>
  rw [hL] at hli;clear hL hg hfro hver xg
  go_enter Tryz.func4,Tryz.ntmps4
  go_wp2_with (first
   | (go_at_call 10;go_loud (refine(hli _).mono ?_;rintro r w1 ⟨rfl,ac⟩))
   | (go_at_call 5;go_loud (refine(HKN.out _ Jb).mono ?_;rintro r wn ⟨rfl,dI⟩)))
  go_ret;exact⟨rfl,Jb⟩
 rw [hL] at hli;simp only [Kp7,Bool.and_eq_true,decide_eq_true_eq] at hL;obtain⟨⟨l1,l2⟩,l3⟩:=hL;have lp:=fun W (h:Below w.heap.size w W)=>Kqw a b c fro ver W Uo Uo Uo (hg.later h) hfro hver;have bF:=fun M ia ib W h1 h2=>Kbs M ia ib W h1 h2;have cE:=Kbs Im.zero ⟨none,0,none,0,none,0⟩ ⟨none,0,none,0,none,0⟩;have tZ:=fun M ia W h1 h2 h3 h4=>Kq3 M ia W h1 h2 h3 h4;have hpar:=fun M W h1 h2 A cap h3 h4=>Kq0 M h1 h2 A cap W h3 h4;have dK:=fun M ia W h1 h2=>Jqe M ia W h1 h2;unfold UpR at lp;unfold imV at *;dsimp only at lp cE;dsimp only [Im.zero,Fr.zero,Nm] at cE;have fM:Tryz.prog.eqGuardType Tryz.prog.depth 32=false:=Ue;have HUP:=Nf lp;have HS:=Nf bF;have mF:=Nf cE;have HE:=Nf tZ;have HP:=Nf hpar;have HC:=Nf dK;clear lp bF cE tZ hpar dK xg hg hfro hver l1 l2 l3
 go_enter Tryz.func4,Tryz.ntmps4
 go_upto_region 4 with (first
  | (go_at_call 11;go_loud (refine(HUP.out _ (Jd (Jc (Nt) _) ac)).mono ?_;rintro r w2 ⟨⟨M,⟨D1,e1,D2,e2,D3,e3⟩,k,f1,f2,f3,rfl,him,tu⟩,aq⟩))
  | (go_at_call 10;go_loud (refine(hli _).mono ?_;rintro r w1 ⟨rfl,ac⟩);have t0:=Ja ac (show(w.alloc _).cell? ⟨w.heap.size,0,none⟩=some (.string a) from by go_simp);have t1:=Ja ac (show(w.alloc _).cell? ⟨w.heap.size,1,none⟩=some (.string b) from by go_simp);have t2:=Ja ac (show(w.alloc _).cell? ⟨w.heap.size,2,none⟩=some (.string c) from by go_simp);have t3:=Ja ac (show(w.alloc _).cell? ⟨w.heap.size,3,none⟩=some (.int .u32 fro) from by go_simp);have t4:=Ja ac (show(w.alloc _).cell? ⟨w.heap.size,4,none⟩=some (.int .u32 ver) from by go_simp)))
 refine Jo fun V hV=>?_;have fk:=Nd w2 V Vj;have bK:=Nd w V (Jd (Jd (Jd (Jc (Nt) _) ac) aq) fk);have m0:=Nb V w2.heap.size 0 (.int .u32 M.ver) Uj;have m1:=Nb V w2.heap.size 1 (.int .u32 M.fro) Uj;have m2:=Na V w2.heap.size 2 M.eld Uj;have m3:=Na V w2.heap.size 3 M.fr.s Uj;have m4:=Na V w2.heap.size 4 M.fr.o Uj;have m5:=Na V w2.heap.size 5 M.fr.n Uj;have m6:=Na V w2.heap.size 6 M.fr.i Uj;have m7:=Na V w2.heap.size 7 M.fr.u Uj;have m8:=Nb V w2.heap.size 8 (.slice D1 M.first.length e1) Uj;have m9:=Nb V w2.heap.size 9 (.slice D2 M.step.length e2) Uj;have m10:=Nb V w2.heap.size 10 (.slice D3 M.move.length e3) Uj;have m11:=Na V w2.heap.size 11 M.sf Uj;have m12:=Na V w2.heap.size 12 M.mf Uj;have q0:=Na V (w2.heap.size+1) 0 f1 Uj;have q1:=Na V (w2.heap.size+1) 1 f2 Uj;have q2:=Na V (w2.heap.size+1) 2 f3 Uj;replace t0:=Ja fk (Ja aq t0);replace t1:=Ja fk (Ja aq t1);replace t2:=Ja fk (Ja aq t2);replace t3:=Ja fk (Ja aq t3);replace t4:=Ja fk (Ja aq t4);have HIM:=Nf (him.later fk);have HV:=Nf bK;have lo:=Nf tu;clear hV fk ac aq him bK tu HUP hli
 rcases lo.out with ⟨h3,cD,dU,hM,hia⟩|⟨h1,h2,h3,h4,aw,hw,cE,hf,hv,am⟩
 ·have lF:=fun w=>Kro f1 f2 f3 h3 w;have rb:=Nf lF;obtain⟨rfl,rfl,rfl,rfl,rfl,rfl⟩:D1=none/\e1=0/\D2=none/\e2=0/\D3=none/\e3=0:=by injection hia with a1 a2 a3 a4 a5 a6;exact⟨a1,a2,a3,a4,a5,a6⟩
  subst hM;dsimp only [Im.zero,Fr.zero,Nm] at *;have d1:decide (1<=k)=true:=by simpa using cD
  have d2:decide (k<=3)=true:=by simpa using dU
  have him0:=HIM.out;clear HE HP HC HS lo h3 hia HIM
  go_wp2_with (first
   | (go_at_call 9;go_loud (refine(mF.out V him0 him0).mono ?_;rintro r ws ⟨rfl,uL⟩))
   | (go_at_call 5;go_loud (refine(HKN.out _ (Jd HV.out uL)).mono ?_;rintro r wn ⟨rfl,dI⟩)))
  go_ret;exact⟨rfl,Jd (Jd HV.out uL) dI⟩
 ·subst h1 h2 h3 h4 hf hv;have dp:=fun w=>Jd6 0 0 0 w;have HE2:=Nf (HE.out M ⟨D1,e1,D2,e2,D3,e3⟩ V HIM.out aw hw cE);have kc:=Nf aw;have HW:=Nf hw;have HSZ2:=Nf cE;have dlt:decide (M.fro<M.ver)=true:=by simpa using am
  clear aw hw cE HE mF lo
  go_upto_region 8 with (first
   | (go_at_call 12;go_loud (refine HE2.out.mono ?_;rintro r w3 ⟨⟨A,cap,rfl,aY⟩,aM⟩))
   | (go_at_call 13;go_loud (refine(HP.out M _ HW.out kc.out A cap aY HSZ2.out).mono ?_;rintro r w4 ⟨⟨⟨E1,g1,E2,g2,E3,g3⟩,rfl,him4⟩,ei⟩)))
  refine Jo fun V3 hV=>?_;have hbx3:=Nd w4 V3 G8;have da:=Jd (Jd aM ei) hbx3;have n0:=Nb V3 w4.heap.size 0 (.int .u32 M.ver) Uj;have n1:=Nb V3 w4.heap.size 1 (.int .u32 M.fro) Uj;have n2:=Na V3 w4.heap.size 2 M.eld Uj;have n3:=Na V3 w4.heap.size 3 M.fr.s Uj;have n4:=Na V3 w4.heap.size 4 M.fr.o Uj;have n5:=Na V3 w4.heap.size 5 M.fr.n Uj;have n6:=Na V3 w4.heap.size 6 M.fr.i Uj;have n7:=Na V3 w4.heap.size 7 M.fr.u Uj;have n8:=Nb V3 w4.heap.size 8 (.slice E1 M.first.length g1) Uj;have n9:=Nb V3 w4.heap.size 9 (.slice E2 M.step.length g2) Uj;have n10:=Nb V3 w4.heap.size 10 (.slice E3 M.move.length g3) Uj;have n11:=Na V3 w4.heap.size 11 M.sf Uj;have n12:=Na V3 w4.heap.size 12 M.mf Uj;replace m0:=Ja da m0;replace m1:=Ja da m1;replace m2:=Ja da m2;replace m3:=Ja da m3;replace m4:=Ja da m4;replace m5:=Ja da m5;replace m6:=Ja da m6;replace m7:=Ja da m7;replace m8:=Ja da m8;replace m9:=Ja da m9;replace m10:=Ja da m10;replace m11:=Ja da m11;replace m12:=Ja da m12;replace t0:=Ja da t0;replace t1:=Ja da t1;replace t2:=Ja da t2;replace t3:=Ja da t3;replace t4:=Ja da t4;have HX:=Nf (HIM.out.later da);have HY:=Nf (him4.later hbx3);have fs:=Jd HV.out da;have HC2:=Nf (HC.out M ⟨D1,e1,D2,e2,D3,e3⟩ V3 HX.out kc.out);have dm:=HC2.out;rw [HW.out] at dm;have HC3:=Nf dm;have HV3:=Nf fs;clear hV hbx3 aM ei da him4 HIM aY HE2 fs HC HC2 dm HP HV
  go_wp2_with (first
   | (go_at_call 14;go_loud (refine HC3.out.mono ?_;rintro r wc ⟨rfl,bU⟩;have y0:=Ja bU m0;have y1:=Ja bU m1;have y2:=Ja bU m2;have y3:=Ja bU m3;have y4:=Ja bU m4;have y5:=Ja bU m5;have y6:=Ja bU m6;have y7:=Ja bU m7;have y8:=Ja bU m8;have y9:=Ja bU m9;have y10:=Ja bU m10;have y11:=Ja bU m11;have y12:=Ja bU m12;have x0:=Ja bU n0;have x1:=Ja bU n1;have x2:=Ja bU n2;have x3:=Ja bU n3;have x4:=Ja bU n4;have x5:=Ja bU n5;have x6:=Ja bU n6;have x7:=Ja bU n7;have x8:=Ja bU n8;have x9:=Ja bU n9;have x10:=Ja bU n10;have x11:=Ja bU n11;have x12:=Ja bU n12;have s3:=Ja bU t3;have s4:=Ja bU t4))
   | (go_at_call 9;go_loud (refine(HS.out M ⟨E1,g1,E2,g2,E3,g3⟩ ⟨D1,e1,D2,e2,D3,e3⟩ _ (HY.out.later bU) (HX.out.later bU)).mono ?_;rintro r ws ⟨rfl,uL⟩;have u0:=Ja uL y0;have u1:=Ja uL y1;have u3:=Ja uL s3;have u4:=Ja uL s4))
   | (go_at_call 5;go_loud (refine(HKN.out _ (Jd (Jd HV3.out bU) uL)).mono ?_;rintro r wn ⟨rfl,dI⟩)))
  go_ret;exact⟨rfl,Jd (Jd (Jd HV3.out bU) uL) dI⟩
end Go.Proofs.YtdgjplldlfeolaaGreatDoor
