/- Lemmas. -/
import Derived.Test.YtdgjplldlfeolaaGreatDoorMac
import Derived.Test.YtdgjplldlfeolaaGreatDoorY39
import Derived.Test.YtdgjplldlfeolaaGreatDoorY47
set_option linter.unusedVariables false
set_option linter.unusedSimpArgs false
set_option maxRecDepth 100000
set_option maxHeartbeats 64000000
namespace Go.Proofs.YtdgjplldlfeolaaGreatDoor
open Go.RowKit Go.Sort
theorem Kru {w V F:World} {m:Im} {ia:ImA} {t:TypeId} (ax:Below (w.alloc (.cells Kpa.toArray t)).heap.size (w.alloc (.cells Kpa.toArray t)) V) (him:Jd5 V m ia) (hF:F=Koi V w.heap.size 0 (imL m ia)) :
  (∀(j:Nat) (u:Value),(imL m ia)[j]?=some u->F.cell? ⟨w.heap.size,j,none⟩=some u)/\Below w.heap.size w F/\Jd5 F m ia:=by
 have oG:Khq V w.heap.size:=(Khq.new w Kpa t (by simp [Kpa])).later ax Uh;have dZ:=Nd w V (Jd (Jc (Nt) _) ax);have bI:(imL m ia).length=Kpa.length:=rfl
 have hZ:∀i,i<(imL m ia).length->∃u,V.cell? ⟨w.heap.size,0+i,none⟩=some u:=fun i hi=>
  ⟨Kpa[i]'(by rw [<-bI];exact hi),by rw [Nat.zero_add];exact Ja ax ((Kw w _ _ i).trans Fa)⟩
 subst hF;refine⟨fun j u hj=>?_,Kok (Ns _) _ _ _ dZ,him.aside fun b o k hk=>Koj (fun he=>by subst he;exact oG o k hk) _ _ _⟩;have h1:=Kom (z:=w.heap.size) (imL m ia) 0 V hZ j u hj
 rwa [Nat.zero_add] at h1
theorem Kq0 (m:Im) (hr:m.wrong=0) (aw:Jsj m) (A:Option Addr) (cap:Nat) (w:World) (hb:Qc w (byU (Jba m)) (Jba m).length A cap) (hl:¬2016<(Jba m).length) :
  Calls Tryz.prog 13 #[.slice A (Jba m).length cap] w fun r w'=>(∃ia,r = .returned (.tuple #[imV m ia,.int .i64 0])/\Jd5 w' m ia)/\Below w.heap.size w w':=by
 have hread:=fun W (h:Below w.heap.size w W)=>Krx m (Im.right hr) aw A cap W (hb.later h) Ua;have aN:=fun ia W (h:Jd5 W m ia)=>Jqe m ia W h aw;simp only [hr] at aN;have tb:¬(2016:Int)<((Jba m).length:Int):=Ua;unfold imV at *;generalize (Jba m).length=n at *;have HR:=Nf hread;have HC:=Nf aN;clear hb hl hr aw hread aN
 go_enter Tryz.func13,Tryz.ntmps13
 go_upto_region 4 with (go_at_call 31;go_loud (refine(HR.out _ Jb).mono ?_;rintro r w1 ⟨⟨⟨A1,c1,A2,c2,A3,c3⟩,rfl,him⟩,ac⟩))
 refine Jo fun V hV=>?_;have fk:=Nd w1 V G8;have ax:Below (w.alloc (.cells Kpa.toArray 29)).heap.size (w.alloc (.cells Kpa.toArray 29)) w1:=ac;have hb0V:=Jd ax fk;have m0:=Nb V w1.heap.size 0 (.int .u32 m.ver) Uj;have m1:=Nb V w1.heap.size 1 (.int .u32 m.fro) Uj;have m2:=Na V w1.heap.size 2 m.eld Uj;have m3:=Na V w1.heap.size 3 m.fr.s Uj;have m4:=Na V w1.heap.size 4 m.fr.o Uj;have m5:=Na V w1.heap.size 5 m.fr.n Uj;have m6:=Na V w1.heap.size 6 m.fr.i Uj;have m7:=Na V w1.heap.size 7 m.fr.u Uj;have m8:=Nb V w1.heap.size 8 (.slice A1 m.first.length c1) Uj;have m9:=Nb V w1.heap.size 9 (.slice A2 m.step.length c2) Uj;have m10:=Nb V w1.heap.size 10 (.slice A3 m.move.length c3) Uj;have m11:=Na V w1.heap.size 11 m.sf Uj;have m12:=Na V w1.heap.size 12 m.mf Uj;have HIM:=Nf (him.later fk);have zZ:w1.heap.size<V.heap.size:=Mj;clear hV ax ac fk him HR;have HB:=Nf hb0V;clear hb0V
 go_upto_region 7 with (go_at_call 14;go_loud (refine(HC.out ⟨A1,c1,A2,c2,A3,c3⟩ _ HIM.out).mono ?_;rintro r w2 ⟨rfl,aq⟩))
 replace m0:=Ja aq m0;replace m1:=Ja aq m1;replace m2:=Ja aq m2;replace m3:=Ja aq m3;replace m4:=Ja aq m4;replace m5:=Ja aq m5;replace m6:=Ja aq m6;replace m7:=Ja aq m7;replace m8:=Ja aq m8;replace m9:=Ja aq m9;replace m10:=Ja aq m10;replace m11:=Ja aq m11;replace m12:=Ja aq m12;have aM:=Jd HB.out aq;have z0:=Nb w2 w.heap.size 0 (.int .u32 0) (Ja aM ((Kw w _ _ 0).trans rfl));have z1:=Nb w2 w.heap.size 1 (.int .u32 0) (Ja aM ((Kw w _ _ 1).trans rfl));have z2:=Na w2 w.heap.size 2 0 (Ja aM ((Kw w _ _ 2).trans rfl));have z3:=Na w2 w.heap.size 3 0 (Ja aM ((Kw w _ _ 3).trans rfl));have z4:=Na w2 w.heap.size 4 0 (Ja aM ((Kw w _ _ 4).trans rfl));have z5:=Na w2 w.heap.size 5 0 (Ja aM ((Kw w _ _ 5).trans rfl));have z6:=Na w2 w.heap.size 6 0 (Ja aM ((Kw w _ _ 6).trans rfl));have z7:=Na w2 w.heap.size 7 0 (Ja aM ((Kw w _ _ 7).trans rfl));have z8:=Nb w2 w.heap.size 8 (.slice none 0 0) (Ja aM ((Kw w _ _ 8).trans rfl));have z9:=Nb w2 w.heap.size 9 (.slice none 0 0) (Ja aM ((Kw w _ _ 9).trans rfl));have z10:=Nb w2 w.heap.size 10 (.slice none 0 0) (Ja aM ((Kw w _ _ 10).trans rfl));have z11:=Na w2 w.heap.size 11 0 (Ja aM ((Kw w _ _ 11).trans rfl));have z12:=Na w2 w.heap.size 12 0 (Ja aM ((Kw w _ _ 12).trans rfl));have zf:∀o,w2.frozen? ⟨w.heap.size,o,none⟩=false:=fun o=>(Jf aM _ _ Uh).trans Uc;have pQ:w.heap.size<w2.heap.size:=by have:=aM.size;simp at this;omega
 have hly:w1.heap.size<w2.heap.size:=by have:=aq.size;omega
 have him2:=HIM.out.later aq;have HM:=Nf him2;have HB3:=Nf aM;clear him2 aq aM HIM HB HC zZ
 go_wp2_with fail
 refine Zc fun F hF=>?_;obtain⟨hz,hbF,himF⟩:=Kru HB3.out HM.out hF;clear hF;exact Nv (v:= .tuple #[.agg (imL m ⟨A1,c1,A2,c2,A3,c3⟩).toArray,.int .i64 0]) (Kpw rfl (imL m ⟨A1,c1,A2,c2,A3,c3⟩) rfl Ue Ue hz rfl) rfl ⟨⟨⟨A1,c1,A2,c2,A3,c3⟩,rfl,himF⟩,hbF⟩
end Go.Proofs.YtdgjplldlfeolaaGreatDoor
