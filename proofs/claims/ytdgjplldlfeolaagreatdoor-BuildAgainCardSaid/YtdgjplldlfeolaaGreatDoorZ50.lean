/- Lemmas. -/
import Derived.Test.YtdgjplldlfeolaaGreatDoorZ49
import Derived.Deep.RegionLaw
import Derived.Test.YtdgjplldlfeolaaGreatDoorZ37
import Derived.Test.YtdgjplldlfeolaaGreatDoorZ19
import Derived.Test.YtdgjplldlfeolaaGreatDoorZ13
import Derived.Test.YtdgjplldlfeolaaGreatDoorZ47
set_option linter.unusedVariables false
set_option linter.unusedSimpArgs false
set_option maxRecDepth 100000
set_option maxHeartbeats 64000000
namespace Go.Proofs.YtdgjplldlfeolaaGreatDoor
open Go.RowKit Go.Sort
theorem Kma (s:ByteArray) (v:Int) (W:World) (hs:s.size<=maxLen) (hg:Ql W) (hv:0<=v/\v<4294967296):Calls Tryz.prog 15 #[.string s,.int .u32 v] W (Kjn W (Kfk s v)):=by
 unfold Kfk
 by_cases hf:(Kdm s).2.1=0
 ·rw [if_neg (by simpa using hf)];exact Klr s v W hs hg hv hf
 ·rw [if_pos hf];exact Kko s v W hs hf
def Km5 (W:World) (x:Im×(Int×Int×Int)) (r:Ending) (W':World):Prop:=(∃ia,r = .returned (.tuple #[imV x.1 ia,fV x.2])/\Jd5 W' x.1 ia)/\Below W.heap.size W W'
theorem Kgl (s:ByteArray) (v:Int) (W:World) (hs:s.size<=maxLen) (hg:Ql W) (hv:0<=v/\v<4294967296):Calls Tryz.prog 6 #[.string s,.int .u32 v] W (Km5 W (Kfk s v)):=by
 have xb:=fun w (h:Below W.heap.size W w)=>Kma s v w hs (hg.later h) hv;unfold Kjn at xb;generalize Kfk s v=R at xb ⊢;obtain⟨M,k1,k2,k3⟩:=R;unfold srV fV at xb;dsimp only at xb;have HRD:=Lib.hid xb;clear xb hg
 go_enter Tryz.func6,Tryz.ntmps6
 go_upto_region 2 with (go_at_call 15;go_loud (refine(HRD.out _ (Jc (Jc (Below.refl _ _) _) _)).mono ?_;rintro r w1 ⟨⟨nm,B1,l1,d1,B2,l2,d2,B3,l3,d3,B4,l4,d4,⟨D1,e1,D2,e2,D3,e3⟩,rfl,him⟩,ac⟩;have af:=ac.size;(try simp at af)))
 refine Jo fun V hV=>?_;have fk:Below w1.heap.size w1 V:=by rw [hV];exact Jc (Jc (Below.refl _ _) _) _
 have ax:=Jd ac fk;have dZ:Below W.heap.size W V:=Jd (Jc (Jc (Below.refl _ _) _) _) ax;have m0:V.cell? ⟨w1.heap.size,0,none⟩=some (.string nm):=by rw [hV];go_simp
 have m1:V.cell? ⟨w1.heap.size,1,none⟩=some (.slice B1 l1 d1):=by rw [hV];go_simp
 have m2:V.cell? ⟨w1.heap.size,2,none⟩=some (.slice B2 l2 d2):=by rw [hV];go_simp
 have m3:V.cell? ⟨w1.heap.size,3,none⟩=some (.slice B3 l3 d3):=by rw [hV];go_simp
 have m4:V.cell? ⟨w1.heap.size,4,none⟩=some (.slice B4 l4 d4):=by rw [hV];go_simp
 have m5:V.cell? ⟨w1.heap.size,5,none⟩=some (.int .u32 M.ver):=by rw [hV];go_simp
 have m6:V.cell? ⟨w1.heap.size,6,none⟩=some (.int .u32 M.fro):=by rw [hV];go_simp
 have m7:V.cell? ⟨w1.heap.size,7,none⟩=some (.int .i64 M.eld):=by rw [hV];go_simp
 have m8:V.cell? ⟨w1.heap.size,8,none⟩=some (.int .i64 M.fr.s):=by rw [hV];go_simp
 have m9:V.cell? ⟨w1.heap.size,9,none⟩=some (.int .i64 M.fr.o):=by rw [hV];go_simp
 have m10:V.cell? ⟨w1.heap.size,10,none⟩=some (.int .i64 M.fr.n):=by rw [hV];go_simp
 have m11:V.cell? ⟨w1.heap.size,11,none⟩=some (.int .i64 M.fr.i):=by rw [hV];go_simp
 have m12:V.cell? ⟨w1.heap.size,12,none⟩=some (.int .i64 M.fr.u):=by rw [hV];go_simp
 have m13:V.cell? ⟨w1.heap.size,13,none⟩=some (.slice D1 M.first.length e1):=by rw [hV];go_simp
 have m14:V.cell? ⟨w1.heap.size,14,none⟩=some (.slice D2 M.step.length e2):=by rw [hV];go_simp
 have m15:V.cell? ⟨w1.heap.size,15,none⟩=some (.slice D3 M.move.length e3):=by rw [hV];go_simp
 have m16:V.cell? ⟨w1.heap.size,16,none⟩=some (.int .i64 M.sf):=by rw [hV];go_simp
 have m17:V.cell? ⟨w1.heap.size,17,none⟩=some (.int .i64 M.mf):=by rw [hV];go_simp
 have f0:V.cell? ⟨w1.heap.size+1,0,none⟩=some (.int .i64 k1):=by rw [hV];go_simp
 have f1:V.cell? ⟨w1.heap.size+1,1,none⟩=some (.int .i64 k2):=by rw [hV];go_simp
 have f2:V.cell? ⟨w1.heap.size+1,2,none⟩=some (.int .i64 k3):=by rw [hV];go_simp
 have z0:V.cell? ⟨W.heap.size,0,none⟩=some (.int .u32 0):=Ja ax (by go_simp);have z1:V.cell? ⟨W.heap.size,1,none⟩=some (.int .u32 0):=Ja ax (by go_simp);have z2:V.cell? ⟨W.heap.size,2,none⟩=some (.int .i64 0):=Ja ax (by go_simp);have z3:V.cell? ⟨W.heap.size,3,none⟩=some (.int .i64 0):=Ja ax (by go_simp);have z4:V.cell? ⟨W.heap.size,4,none⟩=some (.int .i64 0):=Ja ax (by go_simp);have z5:V.cell? ⟨W.heap.size,5,none⟩=some (.int .i64 0):=Ja ax (by go_simp);have z6:V.cell? ⟨W.heap.size,6,none⟩=some (.int .i64 0):=Ja ax (by go_simp);have z7:V.cell? ⟨W.heap.size,7,none⟩=some (.int .i64 0):=Ja ax (by go_simp);have z8:V.cell? ⟨W.heap.size,8,none⟩=some (.slice none 0 0):=Ja ax (by go_simp);have z9:V.cell? ⟨W.heap.size,9,none⟩=some (.slice none 0 0):=Ja ax (by go_simp);have z10:V.cell? ⟨W.heap.size,10,none⟩=some (.slice none 0 0):=Ja ax (by go_simp);have z11:V.cell? ⟨W.heap.size,11,none⟩=some (.int .i64 0):=Ja ax (by go_simp);have z12:V.cell? ⟨W.heap.size,12,none⟩=some (.int .i64 0):=Ja ax (by go_simp);have y0:V.cell? ⟨W.heap.size+1,0,none⟩=some (.int .i64 0):=Ja ax (by go_simp);have y1:V.cell? ⟨W.heap.size+1,1,none⟩=some (.int .i64 0):=Ja ax (by go_simp);have y2:V.cell? ⟨W.heap.size+1,2,none⟩=some (.int .i64 0):=Ja ax (by go_simp);have zf:∀o,V.frozen? ⟨W.heap.size,o,none⟩=false:=fun o=>(Jf ax _ _ (by simp <;> omega)).trans (by go_simp);have yf:∀o,V.frozen? ⟨W.heap.size+1,o,none⟩=false:=fun o=>(Jf ax _ _ (by simp <;> omega)).trans (by go_simp);have oG:=Kjw W V [.int .u32 0,.int .u32 0,.int .i64 0,.int .i64 0,.int .i64 0,.int .i64 0,.int .i64 0,.int .i64 0,.slice none 0 0,.slice none 0 0,.slice none 0 0,.int .i64 0,.int .i64 0] [.int .i64 0,.int .i64 0,.int .i64 0] 29 32 (by simp) (by simp) ax
 have hZ:∀i,i<([.int .u32 0,.int .u32 0,.int .i64 0,.int .i64 0,.int .i64 0,.int .i64 0,.int .i64 0,.int .i64 0,.slice none 0 0,.slice none 0 0,.slice none 0 0,.int .i64 0,.int .i64 0]:List Value).length->∃u,V.cell? ⟨W.heap.size,i,none⟩=some u:=fun i hi=>
  ⟨_,Ja ax (J4 ((Kw W _ _ i).trans (by rw [List.getElem?_toArray];exact List.getElem?_eq_getElem (l:=[.int .u32 0,.int .u32 0,.int .i64 0,.int .i64 0,.int .i64 0,.int .i64 0,.int .i64 0,.int .i64 0,.slice none 0 0,.slice none 0 0,.slice none 0 0,.int .i64 0,.int .i64 0]) hi)))⟩
 have hY:∀i,i<([.int .i64 0,.int .i64 0,.int .i64 0]:List Value).length->∃u,V.cell? ⟨W.heap.size+1,i,none⟩=some u:=fun i hi=>
  ⟨_,Ja ax ((Kmc _ _ _ (by simp) i).trans (by rw [List.getElem?_toArray];exact List.getElem?_eq_getElem (l:=[.int .i64 0,.int .i64 0,.int .i64 0]) hi))⟩
 have HZ:=Lib.hid hZ;have HY:=Lib.hid hY;have HIM:=Lib.hid (him.later fk);have bI:W.heap.size+1<w1.heap.size:=by omega
 have fD:w1.heap.size+1<V.heap.size:=by rw [hV];simp
 have HNO:=Lib.hid oG;clear hV fk ax ac him oG HRD hZ hY
 go_region_law (fail)
 all_goals
  go_wp2_with fail
  refine Zc fun F hF=>?_;obtain⟨X,hX,Y,hY2,hF2⟩:∃X,X=Koi V W.heap.size 0 [.int .u32 M.ver,.int .u32 M.fro,.int .i64 M.eld,.int .i64 M.fr.s,.int .i64 M.fr.o,.int .i64 M.fr.n,.int .i64 M.fr.i,.int .i64 M.fr.u,.slice D1 M.first.length e1,.slice D2 M.step.length e2,.slice D3 M.move.length e3,.int .i64 M.sf,.int .i64 M.mf]/\∃Y,Y=Koi X (W.heap.size+1) 0 [.int .i64 k1,.int .i64 k2,.int .i64 k3]/\F=Y.drew:=⟨_,rfl,_,rfl,hF⟩;clear hF;have aS:W.heap.size≠W.heap.size+1:=by omega
  have cX:∀(j:Nat) (u:Value),([.int .u32 M.ver,.int .u32 M.fro,.int .i64 M.eld,.int .i64 M.fr.s,.int .i64 M.fr.o,.int .i64 M.fr.n,.int .i64 M.fr.i,.int .i64 M.fr.u,.slice D1 M.first.length e1,.slice D2 M.step.length e2,.slice D3 M.move.length e3,.int .i64 M.sf,.int .i64 M.mf]:List Value)[j]?=some u->X.cell? ⟨W.heap.size,j,none⟩=some u:=fun j u hj=>by
   have h1:=Kom (z:=W.heap.size) [.int .u32 M.ver,.int .u32 M.fro,.int .i64 M.eld,.int .i64 M.fr.s,.int .i64 M.fr.o,.int .i64 M.fr.n,.int .i64 M.fr.i,.int .i64 M.fr.u,.slice D1 M.first.length e1,.slice D2 M.step.length e2,.slice D3 M.move.length e3,.int .i64 M.sf,.int .i64 M.mf] 0 V (fun i hi=>by rw [Nat.zero_add];exact HZ.out i hi) j u hj;rw [Nat.zero_add,<-hX] at h1;exact h1
  have bX:∀b,b≠W.heap.size->X.heap[b]?=V.heap[b]?:=fun b hb=>by rw [hX];exact Koj hb _ _ _
  have cY:∀(j:Nat) (u:Value),([.int .i64 k1,.int .i64 k2,.int .i64 k3]:List Value)[j]?=some u->Y.cell? ⟨W.heap.size+1,j,none⟩=some u:=fun j u hj=>by
   have h1:=Kom (z:=W.heap.size+1) [.int .i64 k1,.int .i64 k2,.int .i64 k3] 0 X (fun i hi=>by
    rw [Nat.zero_add];obtain⟨x,hx⟩:=HY.out i hi;exact⟨x,Jr (w:=V) (w':=X) (a:=⟨W.heap.size+1,i,none⟩) (bX _ (Ne.symm aS)) hx⟩) j u hj
   rw [Nat.zero_add,<-hY2] at h1;exact h1
  have bY:∀b,b≠W.heap.size+1->Y.heap[b]?=X.heap[b]?:=fun b hb=>by rw [hY2];exact Koj hb _ _ _
  have hbX:Below W.heap.size W X:=by rw [hX];exact Kok (Nat.le_refl _) _ _ _ dZ
  have hbY:Below W.heap.size W Y:=by rw [hY2];exact Kok (Nat.le_succ _) _ _ _ hbX
  clear hX hY2
  have hz:∀(j:Nat) (u:Value),([.int .u32 M.ver,.int .u32 M.fro,.int .i64 M.eld,.int .i64 M.fr.s,.int .i64 M.fr.o,.int .i64 M.fr.n,.int .i64 M.fr.i,.int .i64 M.fr.u,.slice D1 M.first.length e1,.slice D2 M.step.length e2,.slice D3 M.move.length e3,.int .i64 M.sf,.int .i64 M.mf]:List Value)[j]?=some u->F.cell? ⟨W.heap.size,j,none⟩=some u:=fun j u hj=>by
   rw [hF2];exact(Xi _ _).trans (Jr (w:=X) (w':=Y) (a:=⟨W.heap.size,j,none⟩) (bY _ aS) (cX j u hj))
  have hy:∀(j:Nat) (u:Value),([.int .i64 k1,.int .i64 k2,.int .i64 k3]:List Value)[j]?=some u->F.cell? ⟨W.heap.size+1,j,none⟩=some u:=fun j u hj=>by
   rw [hF2];exact(Xi _ _).trans (cY j u hj)
  have hbF:Below W.heap.size W F:=by rw [hF2];exact Jh hbY
  have himF:Jd5 F M ⟨D1,e1,D2,e2,D3,e3⟩:=HIM.out.aside fun b o k hk=>by
   rw [hF2];exact(bY b (fun he=>HNO.out.2 o k (he ▸ hk))).trans (bX b (fun he=>HNO.out.1 o k (he ▸ hk)))
  clear hF2;exact bodyPost_ret (v:= .tuple #[imV M ⟨D1,e1,D2,e2,D3,e3⟩,fV (k1,k2,k3)]) (Kol rfl [.int .u32 M.ver,.int .u32 M.fro,.int .i64 M.eld,.int .i64 M.fr.s,.int .i64 M.fr.o,.int .i64 M.fr.n,.int .i64 M.fr.i,.int .i64 M.fr.u,.slice D1 M.first.length e1,.slice D2 M.step.length e2,.slice D3 M.move.length e3,.int .i64 M.sf,.int .i64 M.mf] [.int .i64 k1,.int .i64 k2,.int .i64 k3] rfl rfl (by kernel_rfl) (by kernel_rfl) (by kernel_rfl) (by kernel_rfl) hz hy) rfl ⟨⟨⟨D1,e1,D2,e2,D3,e3⟩,rfl,himF⟩,hbF⟩
theorem Km4:(imE prK 1).2=(0,0,0)/\(imE prK 1).1.step.length=4:=by decide +kernel
theorem Kni:Kfk Khl 1=imE prK 1:=by
 unfold Kfk;rw [Knz,if_neg (by simp)]
theorem Km8:Kfk Kic 1=(Im.zero,(1,4,16)):=by
 unfold Kfk;rw [Klt,if_pos (by simp)]
theorem Kka (w:World) (hg:Ql w):Calls Tryz.prog 5 #[] w fun r w'=>r = .returned (.bool true)/\Below w.heap.size w w':=by
 have h1:=fun W (h:Below w.heap.size w W)=>Kgl Khl 1 W (Nat.le_trans (show Khl.size<=100 by decide) (by unfold maxLen;omega)) (hg.later h) (by omega);have h2:=fun W (h:Below w.heap.size w W)=>Kgl Kic 1 W (Nat.le_trans (show Kic.size<=100 by decide) (by unfold maxLen;omega)) (hg.later h) (by omega);rw [Kni] at h1;rw [Km8] at h2;obtain⟨e1,e2⟩:=Km4;unfold Km5 at h1 h2;rw [e1] at h1;generalize (imE prK 1).1=M at *;obtain⟨mv,mf,me,⟨ma,mb,mc,md,mg⟩,mfirst,mstep,mmove,msf,mmf⟩:=M;dsimp only at e2;unfold imV fV at h1 h2;unfold Khl at h1;unfold Kic at h2;dsimp only [Im.zero,Fr.zero,List.length_nil] at h1 h2;rw [e2] at h1;have hfq1:=fun w=>Jd6 0 0 0 w;have ri:=fun w=>Jd6 1 4 16 w;have fM:Tryz.prog.eqGuardType Tryz.prog.depth 32=false:=by kernel_rfl
 clear e1 e2
 go_enter Tryz.func5,Tryz.ntmps5
 go_upto_region 2 with (go_at_call 6;go_loud (refine(h1 _ (Below.refl _ _)).mono ?_;rintro r w1 ⟨⟨⟨D1,c1,D2,c2,D3,c3⟩,rfl,him⟩,ac⟩))
 refine Jo fun V hV=>?_;have fk:Below w1.heap.size w1 V:=by rw [hV];exact Jc (Jc (Below.refl _ _) _) _
 have bK:=Jd ac fk;have s9:V.cell? ⟨w1.heap.size,9,none⟩=some (.slice D2 4 c2):=by rw [hV];go_simp
 have f0:V.cell? ⟨w1.heap.size+1,0,none⟩=some (.int .i64 0):=by rw [hV];go_simp
 have f1:V.cell? ⟨w1.heap.size+1,1,none⟩=some (.int .i64 0):=by rw [hV];go_simp
 have f2:V.cell? ⟨w1.heap.size+1,2,none⟩=some (.int .i64 0):=by rw [hV];go_simp
 clear hV fk ac him
 go_upto_region 3 with (go_at_call 6;go_loud (refine(h2 _ bK).mono ?_;rintro r w2 ⟨⟨⟨E1,g1,E2,g2,E3,g3⟩,rfl,him⟩,aq⟩))
 refine Jo fun V2 bz=>?_;have hbx2:Below w2.heap.size w2 V2:=by rw [bz];exact Jc (Jc (Below.refl _ _) _) _
 have aM:=Jd aq hbx2;have q0:V2.cell? ⟨w2.heap.size+1,0,none⟩=some (.int .i64 1):=by rw [bz];go_simp
 have q1:V2.cell? ⟨w2.heap.size+1,1,none⟩=some (.int .i64 4):=by rw [bz];go_simp
 have q2:V2.cell? ⟨w2.heap.size+1,2,none⟩=some (.int .i64 16):=by rw [bz];go_simp
 replace s9:=Ja aM s9;replace f0:=Ja aM f0;replace f1:=Ja aM f1;replace f2:=Ja aM f2;have jh:=Jd bK aM;clear bz hbx2 aq aM him h1 h2 bK
 go_wp2_with fail
 go_ret;exact⟨rfl,jh⟩
theorem Kl5 {p:Pr} (h:K5 p=0):X8 p=Jal p:=by
 unfold X8;rw [if_pos h]
theorem Kmp (s:ByteArray) (v:Int) (w:World) (hg:Ql w) (hv:0<=v/\v<4294967296) :
  Calls Tryz.prog 3 #[.string s,.int .u32 v] w fun r w'=>r = .returned (.bool true)/\Below w.heap.size w w':=by
 have xg:=fun W (h:Below w.heap.size w W)=>Kka W (hg.later h)
 by_cases dP:20000<s.size
 ·have d1:decide (20000<(s.size:Int))=true:=by simp;omega
  go_enter Tryz.func3,Tryz.ntmps3
  go_wp2_with (go_at_call 5;go_loud (refine(xg _ (Below.refl _ _)).mono ?_;rintro r wn ⟨rfl,dI⟩))
  go_ret;exact⟨rfl,dI⟩
 have d1:decide (20000<(s.size:Int))=false:=by simp;omega
 have hs:s.size<=maxLen:=by unfold maxLen;omega
 have pU:=fun W (h:Below w.heap.size w W)=>Kgl s v W hs (hg.later h) hv;have hpa:=fun W=>Khm s W hs;have xx:=fun t (ht:t.size<=maxLen) W (h:Below w.heap.size w W)=>Kgl t v W ht (hg.later h) hv;obtain⟨aw,l1,l2,l3,l4⟩:=Kje s;have hpr:=fun a W (aY:Kr W (Kdm s).1 a)=>Jh3 (Kdm s).1 a W aY l1 l2 l3 l4;have fM:Tryz.prog.eqGuardType Tryz.prog.depth 32=false:=by kernel_rfl
 have hlaw:=fun h1 h2=>Kmq (s:=s) (v:=v) h1 h2;have ef:Kfk s v=if (Kdm s).2.1≠0 then(Im.zero,(1,(Kdm s).2.2,(Kdm s).2.1)) else imE (Kdm s).1 v:=rfl;have bF:=fun M ia ib W h1 h2=>Kbs M ia ib W h1 h2;unfold Km5 at pU xx;unfold Khe at hpa;generalize hB:Kfk s v=R at *;obtain⟨M,k1,k2,k3⟩:=R;generalize Kdm s=P at *;obtain⟨p,e,at0⟩:=P;unfold imV fV at pU;unfold prV at hpa hpr;dsimp only at pU hpa hpr hlaw ef;have HBI:=Lib.hid pU;have HPA:=Lib.hid hpa;have HPR:=Lib.hid hpr;have HLAW:=Lib.hid hlaw;have HSAME:=Lib.hid bF;have HBI2:=Lib.hid xx;have HBE:=Lib.hid ef;have HB:=Lib.hid hB;clear pU hpa hpr hlaw bF xx ef hB hg aw l1 l2 l3 l4 hs;have dp:=fun w=>Jd6 k1 k2 k3 w
 go_enter Tryz.func3,Tryz.ntmps3
 go_upto_region 4 with (go_at_call 6;go_loud (refine(HBI.out _ (Below.refl _ _)).mono ?_;rintro r w1 ⟨⟨⟨D1,e1,D2,e2,D3,e3⟩,rfl,him⟩,ac⟩))
 refine Jo fun V hV=>?_;have fk:Below w1.heap.size w1 V:=by rw [hV];exact Jc (Jc (Below.refl _ _) _) _
 have bK:=Jd ac fk;have m0:V.cell? ⟨w1.heap.size,0,none⟩=some (.int .u32 M.ver):=by rw [hV];go_simp
 have m1:V.cell? ⟨w1.heap.size,1,none⟩=some (.int .u32 M.fro):=by rw [hV];go_simp
 have m2:V.cell? ⟨w1.heap.size,2,none⟩=some (.int .i64 M.eld):=by rw [hV];go_simp
 have m3:V.cell? ⟨w1.heap.size,3,none⟩=some (.int .i64 M.fr.s):=by rw [hV];go_simp
 have m4:V.cell? ⟨w1.heap.size,4,none⟩=some (.int .i64 M.fr.o):=by rw [hV];go_simp
 have m5:V.cell? ⟨w1.heap.size,5,none⟩=some (.int .i64 M.fr.n):=by rw [hV];go_simp
 have m6:V.cell? ⟨w1.heap.size,6,none⟩=some (.int .i64 M.fr.i):=by rw [hV];go_simp
 have m7:V.cell? ⟨w1.heap.size,7,none⟩=some (.int .i64 M.fr.u):=by rw [hV];go_simp
 have m8:V.cell? ⟨w1.heap.size,8,none⟩=some (.slice D1 M.first.length e1):=by rw [hV];go_simp
 have m9:V.cell? ⟨w1.heap.size,9,none⟩=some (.slice D2 M.step.length e2):=by rw [hV];go_simp
 have m10:V.cell? ⟨w1.heap.size,10,none⟩=some (.slice D3 M.move.length e3):=by rw [hV];go_simp
 have m11:V.cell? ⟨w1.heap.size,11,none⟩=some (.int .i64 M.sf):=by rw [hV];go_simp
 have m12:V.cell? ⟨w1.heap.size,12,none⟩=some (.int .i64 M.mf):=by rw [hV];go_simp
 have f0:V.cell? ⟨w1.heap.size+1,0,none⟩=some (.int .i64 k1):=by rw [hV];go_simp
 have f1:V.cell? ⟨w1.heap.size+1,1,none⟩=some (.int .i64 k2):=by rw [hV];go_simp
 have f2:V.cell? ⟨w1.heap.size+1,2,none⟩=some (.int .i64 k3):=by rw [hV];go_simp
 have HIM:=Lib.hid (him.later fk);clear hV fk ac him HBI
 go_upto_region 5 with (go_at_call 7;go_loud (refine(HPA.out _).mono ?_;rintro r w2 ⟨⟨⟨A1,c1,A2,c2,A3,c3,A4,c4⟩,rfl,aY⟩,aq⟩))
 refine Jo fun V2 bz=>?_;have hbx2:Below w2.heap.size w2 V2:=by rw [bz];exact Jc (Below.refl _ _) _
 have aM:=Jd aq hbx2;have p0:V2.cell? ⟨w2.heap.size,0,none⟩=some (.string p.name):=by rw [bz];go_simp
 have p1:V2.cell? ⟨w2.heap.size,1,none⟩=some (.slice A1 p.ins.length c1):=by rw [bz];go_simp
 have p2:V2.cell? ⟨w2.heap.size,2,none⟩=some (.slice A2 p.outs.length c2):=by rw [bz];go_simp
 have p3:V2.cell? ⟨w2.heap.size,3,none⟩=some (.slice A3 p.locals.length c3):=by rw [bz];go_simp
 have p4:V2.cell? ⟨w2.heap.size,4,none⟩=some (.slice A4 p.eqs.length c4):=by rw [bz];go_simp
 replace m0:=Ja aM m0;replace m1:=Ja aM m1;replace m2:=Ja aM m2;replace m3:=Ja aM m3;replace m4:=Ja aM m4;replace m5:=Ja aM m5;replace m6:=Ja aM m6;replace m7:=Ja aM m7;replace m8:=Ja aM m8;replace m9:=Ja aM m9;replace m10:=Ja aM m10;replace m11:=Ja aM m11;replace m12:=Ja aM m12;replace f0:=Ja aM f0;replace f1:=Ja aM f1;replace f2:=Ja aM f2;have HIM2:=Lib.hid (HIM.out.later aM);have ua:=Lib.hid (aY.later hbx2);have eW:=Jd bK aM;clear bz hbx2 aq aM aY HIM HPA bK
 by_cases he:e=0
 ·subst he;have ef:=HBE.out;rw [if_neg (by simp)] at ef
  by_cases lG:K5 p=0
  ·have gL:=Kl5 lG;have hl:=HLAW.out rfl lG;obtain⟨hsm1,hsm2⟩:=Kh7 lG;have xx:=HBI2.out (Jal p) (by unfold maxLen;omega);rw [hl] at xx;have hpr:=HPR.out;rw [lG,gL] at hpr;unfold imV fV at xx;dsimp only at xx;have HBI3:=Lib.hid xx;have HPR2:=Lib.hid hpr;clear ef gL hl xx hpr HBI2 HPR HLAW HBE HB lG hsm1 hsm2
   go_upto_region 11 with (first
    | (go_at_call 8;go_loud (refine(HPR2.out ⟨A1,c1,A2,c2,A3,c3,A4,c4⟩ _ ua.out).mono ?_;rintro r w3 ⟨rfl,aM⟩))
    | (go_at_call 6;go_loud (refine(HBI3.out _ (Jd eW aM)).mono ?_;rintro r w4 ⟨⟨⟨E1,g1,E2,g2,E3,g3⟩,rfl,him⟩,ei⟩)))
   refine Jo fun V3 dl=>?_;have hbx3:Below w4.heap.size w4 V3:=by rw [dl];exact Jc (Jc (Below.refl _ _) _) _
   have da:=Jd (Jd aM ei) hbx3;have n0:V3.cell? ⟨w4.heap.size,0,none⟩=some (.int .u32 M.ver):=by rw [dl];go_simp
   have n1:V3.cell? ⟨w4.heap.size,1,none⟩=some (.int .u32 M.fro):=by rw [dl];go_simp
   have n2:V3.cell? ⟨w4.heap.size,2,none⟩=some (.int .i64 M.eld):=by rw [dl];go_simp
   have n3:V3.cell? ⟨w4.heap.size,3,none⟩=some (.int .i64 M.fr.s):=by rw [dl];go_simp
   have n4:V3.cell? ⟨w4.heap.size,4,none⟩=some (.int .i64 M.fr.o):=by rw [dl];go_simp
   have n5:V3.cell? ⟨w4.heap.size,5,none⟩=some (.int .i64 M.fr.n):=by rw [dl];go_simp
   have n6:V3.cell? ⟨w4.heap.size,6,none⟩=some (.int .i64 M.fr.i):=by rw [dl];go_simp
   have n7:V3.cell? ⟨w4.heap.size,7,none⟩=some (.int .i64 M.fr.u):=by rw [dl];go_simp
   have n8:V3.cell? ⟨w4.heap.size,8,none⟩=some (.slice E1 M.first.length g1):=by rw [dl];go_simp
   have n9:V3.cell? ⟨w4.heap.size,9,none⟩=some (.slice E2 M.step.length g2):=by rw [dl];go_simp
   have n10:V3.cell? ⟨w4.heap.size,10,none⟩=some (.slice E3 M.move.length g3):=by rw [dl];go_simp
   have n11:V3.cell? ⟨w4.heap.size,11,none⟩=some (.int .i64 M.sf):=by rw [dl];go_simp
   have n12:V3.cell? ⟨w4.heap.size,12,none⟩=some (.int .i64 M.mf):=by rw [dl];go_simp
   have h0:V3.cell? ⟨w4.heap.size+1,0,none⟩=some (.int .i64 k1):=by rw [dl];go_simp
   have h1:V3.cell? ⟨w4.heap.size+1,1,none⟩=some (.int .i64 k2):=by rw [dl];go_simp
   have h2:V3.cell? ⟨w4.heap.size+1,2,none⟩=some (.int .i64 k3):=by rw [dl];go_simp
   replace m0:=Ja da m0;replace m1:=Ja da m1;replace m2:=Ja da m2;replace m3:=Ja da m3;replace m4:=Ja da m4;replace m5:=Ja da m5;replace m6:=Ja da m6;replace m7:=Ja da m7;replace m8:=Ja da m8;replace m9:=Ja da m9;replace m10:=Ja da m10;replace m11:=Ja da m11;replace m12:=Ja da m12;replace f0:=Ja da f0;replace f1:=Ja da f1;replace f2:=Ja da f2;have HX:=Lib.hid (HIM2.out.later da);have HY:=Lib.hid (him.later hbx3);have fs:=Jd eW da;clear dl hbx3 aM ei da him HIM2 ua HBI3 HPR2 eW p0 p1 p2 p3 p4
   go_wp2_with (first
    | (go_at_call 9;go_loud (refine(HSAME.out M ⟨D1,e1,D2,e2,D3,e3⟩ ⟨E1,g1,E2,g2,E3,g3⟩ _ HX.out HY.out).mono ?_;rintro r ws ⟨rfl,uL⟩;have u0:=Ja uL f0;have u1:=Ja uL f1;have u2:=Ja uL f2;have v0:=Ja uL h0;have v1:=Ja uL h1;have v2:=Ja uL h2))
    | (go_at_call 5;go_loud (refine(xg _ (Jd fs uL)).mono ?_;rintro r wn ⟨rfl,dI⟩)))
   go_ret;exact⟨rfl,Jd (Jd fs uL) dI⟩
  ·have hi:=Km7 (p:=p) v lG;rw [<-ef] at hi
   have iI:k3=K5 p:=by
    have:=congrArg (fun x:Int×Int×Int=>x.2.2) hi;simpa using this
   have dU:(k3 != 0)=true:=by rw [iI];simpa using lG
   have hpe2:(K5 p != 0)=true:=by simpa using lG
   have HPR2:=Lib.hid HPR.out;clear ef hi iI HBI2 HPR HLAW HBE HB lG
   go_wp2_with (first
    | (go_at_call 8;go_loud (refine(HPR2.out ⟨A1,c1,A2,c2,A3,c3,A4,c4⟩ _ ua.out).mono ?_;rintro r w3 ⟨rfl,aM⟩;have u0:=Ja aM f0;have u1:=Ja aM f1;have u2:=Ja aM f2))
    | (go_at_call 5;go_loud (refine(xg _ (Jd eW aM)).mono ?_;rintro r wn ⟨rfl,dI⟩)))
   go_ret;exact⟨rfl,Jd (Jd eW aM) dI⟩
 ·have ef:=HBE.out;rw [if_pos he] at ef;injection ef with hM hF;injection hF with hF1 hF;injection hF with hF2 hF3;subst hF1 hF2 hF3;have hei:(k3 != 0)=true:=by simpa using he
  clear he HBE HB HLAW HPR HBI2 hM
  go_wp2_with (go_at_call 5;go_loud (refine(xg _ eW).mono ?_;rintro r wn ⟨rfl,dI⟩))
  go_ret;exact⟨rfl,Jd eW dI⟩
end Go.Proofs.YtdgjplldlfeolaaGreatDoor
