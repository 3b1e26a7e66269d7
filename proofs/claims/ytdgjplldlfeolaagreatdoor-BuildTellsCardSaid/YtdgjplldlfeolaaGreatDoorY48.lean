/- Lemmas. -/
import Derived.Test.YtdgjplldlfeolaaGreatDoorMac
import Derived.Test.YtdgjplldlfeolaaGreatDoorY46
import Derived.Deep.RegionLaw
import Derived.Test.YtdgjplldlfeolaaGreatDoorY13
import Derived.Test.YtdgjplldlfeolaaGreatDoorY19
set_option linter.unusedVariables false
set_option linter.unusedSimpArgs false
set_option maxRecDepth 100000
set_option maxHeartbeats 64000000
namespace Go.Proofs.YtdgjplldlfeolaaGreatDoor
open Go.RowKit Go.Sort
theorem Kma (s:ByteArray) (v:Int) (W:World) (hs:s.size<=maxLen) (hg:Ql W) (hv:0<=v/\v<4294967296):Calls Tryz.prog 15 #[.string s,.int .u32 v] W (Kjn W (Kfk s v)):=by
 unfold Kfk
 by_cases hf:(Kdm s).2.1=0
 ·rw [if_neg S5];refine(Krm s v W hs hg hv hf).mono ?_;rintro r W' ⟨⟨pa,ia,rfl,him,-⟩,hb⟩;exact⟨⟨_,_,_,_,_,_,_,_,_,_,_,_,_,ia,rfl,him⟩,hb⟩
 ·rw [if_pos hf];exact Kko s v W hs hf
def Km5 (W:World) (x:Im×(Int×Int×Int)) (r:Ending) (W':World):Prop:=(∃ia,r = .returned (.tuple #[imV x.1 ia,fV x.2])/\Jd5 W' x.1 ia)/\Below W.heap.size W W'
theorem Kgl (s:ByteArray) (v:Int) (W:World) (hs:s.size<=maxLen) (hg:Ql W) (hv:0<=v/\v<4294967296):Calls Tryz.prog 6 #[.string s,.int .u32 v] W (Km5 W (Kfk s v)):=by
 have xb:=fun w (h:Below W.heap.size W w)=>Kma s v w hs (hg.later h) hv;unfold Kjn at xb;generalize Kfk s v=R at xb ⊢;obtain⟨M,k1,k2,k3⟩:=R;unfold srV fV at xb;dsimp only at xb;have HRD:=Nf xb;clear xb hg
 go_enter Tryz.func6,Tryz.ntmps6
 go_upto_region 2 with (go_at_call 15;go_loud (refine(HRD.out _ (Jc (Jc (Nt) _) _)).mono ?_;rintro r w1 ⟨⟨nm,B1,l1,d1,B2,l2,d2,B3,l3,d3,B4,l4,d4,⟨D1,e1,D2,e2,D3,e3⟩,rfl,him⟩,ac⟩;have af:=ac.size;(try simp at af)))
 refine Jo fun V hV=>?_;have fk:=Nd w1 V Vj;have ax:=Jd ac fk;have dZ:=Nd W V (Jd (Jc (Jc (Nt) _) _) ax);have m0:=Nb V w1.heap.size 0 (.string nm) Uj;have m1:=Nb V w1.heap.size 1 (.slice B1 l1 d1) Uj;have m2:=Nb V w1.heap.size 2 (.slice B2 l2 d2) Uj;have m3:=Nb V w1.heap.size 3 (.slice B3 l3 d3) Uj;have m4:=Nb V w1.heap.size 4 (.slice B4 l4 d4) Uj;have m5:=Nb V w1.heap.size 5 (.int .u32 M.ver) Uj;have m6:=Nb V w1.heap.size 6 (.int .u32 M.fro) Uj;have m7:=Na V w1.heap.size 7 M.eld Uj;have m8:=Na V w1.heap.size 8 M.fr.s Uj;have m9:=Na V w1.heap.size 9 M.fr.o Uj;have m10:=Na V w1.heap.size 10 M.fr.n Uj;have m11:=Na V w1.heap.size 11 M.fr.i Uj;have m12:=Na V w1.heap.size 12 M.fr.u Uj;have m13:=Nb V w1.heap.size 13 (.slice D1 M.first.length e1) Uj;have m14:=Nb V w1.heap.size 14 (.slice D2 M.step.length e2) Uj;have m15:=Nb V w1.heap.size 15 (.slice D3 M.move.length e3) Uj;have m16:=Na V w1.heap.size 16 M.sf Uj;have m17:=Na V w1.heap.size 17 M.mf Uj;have f0:=Na V (w1.heap.size+1) 0 k1 Uj;have f1:=Na V (w1.heap.size+1) 1 k2 Uj;have f2:=Na V (w1.heap.size+1) 2 k3 Uj;have z0:=Nb V W.heap.size 0 (.int .u32 0) (Ja ax Uc);have z1:=Nb V W.heap.size 1 (.int .u32 0) (Ja ax Uc);have z2:=Na V W.heap.size 2 0 (Ja ax Uc);have z3:=Na V W.heap.size 3 0 (Ja ax Uc);have z4:=Na V W.heap.size 4 0 (Ja ax Uc);have z5:=Na V W.heap.size 5 0 (Ja ax Uc);have z6:=Na V W.heap.size 6 0 (Ja ax Uc);have z7:=Na V W.heap.size 7 0 (Ja ax Uc);have z8:=Nb V W.heap.size 8 (.slice none 0 0) (Ja ax Uc);have z9:=Nb V W.heap.size 9 (.slice none 0 0) (Ja ax Uc);have z10:=Nb V W.heap.size 10 (.slice none 0 0) (Ja ax Uc);have z11:=Na V W.heap.size 11 0 (Ja ax Uc);have z12:=Na V W.heap.size 12 0 (Ja ax Uc);have y0:=Na V (W.heap.size+1) 0 0 (Ja ax Uc);have y1:=Na V (W.heap.size+1) 1 0 (Ja ax Uc);have y2:=Na V (W.heap.size+1) 2 0 (Ja ax Uc);have zf:∀o,V.frozen? ⟨W.heap.size,o,none⟩=false:=fun o=>(Jf ax _ _ Ud).trans Uc;have yf:∀o,V.frozen? ⟨W.heap.size+1,o,none⟩=false:=fun o=>(Jf ax _ _ Ud).trans Uc;have oG:=Kqh W V [.int .u32 0,.int .u32 0,.int .i64 0,.int .i64 0,.int .i64 0,.int .i64 0,.int .i64 0,.int .i64 0,.slice none 0 0,.slice none 0 0,.slice none 0 0,.int .i64 0,.int .i64 0] [.int .i64 0,.int .i64 0,.int .i64 0] 29 32 Uh Uh ax
 have hZ:∀i,i<([.int .u32 0,.int .u32 0,.int .i64 0,.int .i64 0,.int .i64 0,.int .i64 0,.int .i64 0,.int .i64 0,.slice none 0 0,.slice none 0 0,.slice none 0 0,.int .i64 0,.int .i64 0]:List Value).length->∃u,V.cell? ⟨W.heap.size,i,none⟩=some u:=fun i hi=>
  ⟨_,Ja ax (J4 ((Kw W _ _ i).trans (by rw [List.getElem?_toArray];exact Ng (l:=[.int .u32 0,.int .u32 0,.int .i64 0,.int .i64 0,.int .i64 0,.int .i64 0,.int .i64 0,.int .i64 0,.slice none 0 0,.slice none 0 0,.slice none 0 0,.int .i64 0,.int .i64 0]) hi)))⟩
 have hY:∀i,i<([.int .i64 0,.int .i64 0,.int .i64 0]:List Value).length->∃u,V.cell? ⟨W.heap.size+1,i,none⟩=some u:=fun i hi=>
  ⟨_,Ja ax ((Kmc _ _ _ Uh i).trans Vq)⟩
 have HZ:=Nf hZ;have HY:=Nf hY;have HIM:=Nf (him.later fk);have bI:=ltA W 1 w1;have fD:w1.heap.size+1<V.heap.size:=Mj;have HNO:=Nf oG;clear hV fk ax ac him oG HRD hZ hY
 go_region_law (fail)
 all_goals
  go_wp2_with fail
  refine Zc fun F hF=>?_;obtain⟨X,hX,Y,hY2,hF2⟩:∃X,X=Koi V W.heap.size 0 [.int .u32 M.ver,.int .u32 M.fro,.int .i64 M.eld,.int .i64 M.fr.s,.int .i64 M.fr.o,.int .i64 M.fr.n,.int .i64 M.fr.i,.int .i64 M.fr.u,.slice D1 M.first.length e1,.slice D2 M.step.length e2,.slice D3 M.move.length e3,.int .i64 M.sf,.int .i64 M.mf]/\∃Y,Y=Koi X (W.heap.size+1) 0 [.int .i64 k1,.int .i64 k2,.int .i64 k3]/\F=Y.drew:=⟨_,rfl,_,rfl,hF⟩;clear hF;have aS:W.heap.size≠W.heap.size+1:=Ua
  have cX:∀(j:Nat) (u:Value),([.int .u32 M.ver,.int .u32 M.fro,.int .i64 M.eld,.int .i64 M.fr.s,.int .i64 M.fr.o,.int .i64 M.fr.n,.int .i64 M.fr.i,.int .i64 M.fr.u,.slice D1 M.first.length e1,.slice D2 M.step.length e2,.slice D3 M.move.length e3,.int .i64 M.sf,.int .i64 M.mf]:List Value)[j]?=some u->X.cell? ⟨W.heap.size,j,none⟩=some u:=fun j u hj=>by
   have h1:=Kom (z:=W.heap.size) [.int .u32 M.ver,.int .u32 M.fro,.int .i64 M.eld,.int .i64 M.fr.s,.int .i64 M.fr.o,.int .i64 M.fr.n,.int .i64 M.fr.i,.int .i64 M.fr.u,.slice D1 M.first.length e1,.slice D2 M.step.length e2,.slice D3 M.move.length e3,.int .i64 M.sf,.int .i64 M.mf] 0 V (fun i hi=>G7) j u hj;rw [Nat.zero_add,<-hX] at h1;exact h1
  have bX:∀b,b≠W.heap.size->X.heap[b]?=V.heap[b]?:=fun b hb=>Sn
  have cY:∀(j:Nat) (u:Value),([.int .i64 k1,.int .i64 k2,.int .i64 k3]:List Value)[j]?=some u->Y.cell? ⟨W.heap.size+1,j,none⟩=some u:=fun j u hj=>by
   exact Bx
  have bY:∀b,b≠W.heap.size+1->Y.heap[b]?=X.heap[b]?:=fun b hb=>Sl;have hbX:=Nd W X Mv;have hbY:=Nd W Y Mk;clear hX hY2
  have hz:∀(j:Nat) (u:Value),([.int .u32 M.ver,.int .u32 M.fro,.int .i64 M.eld,.int .i64 M.fr.s,.int .i64 M.fr.o,.int .i64 M.fr.n,.int .i64 M.fr.i,.int .i64 M.fr.u,.slice D1 M.first.length e1,.slice D2 M.step.length e2,.slice D3 M.move.length e3,.int .i64 M.sf,.int .i64 M.mf]:List Value)[j]?=some u->F.cell? ⟨W.heap.size,j,none⟩=some u:=fun j u hj=>by
   exact Ubn
  have hy:∀(j:Nat) (u:Value),([.int .i64 k1,.int .i64 k2,.int .i64 k3]:List Value)[j]?=some u->F.cell? ⟨W.heap.size+1,j,none⟩=some u:=fun j u hj=>by
   rw [hF2];exact(Xi _ _).trans (cY j u hj)
  have hbF:=Nd W F (by rw [hF2];exact Jh hbY)
  have himF:Jd5 F M ⟨D1,e1,D2,e2,D3,e3⟩:=HIM.out.aside fun b o k hk=>by
   exact Ubi
  clear hF2;exact Nv (v:= .tuple #[imV M ⟨D1,e1,D2,e2,D3,e3⟩,fV (k1,k2,k3)]) (Kol rfl [.int .u32 M.ver,.int .u32 M.fro,.int .i64 M.eld,.int .i64 M.fr.s,.int .i64 M.fr.o,.int .i64 M.fr.n,.int .i64 M.fr.i,.int .i64 M.fr.u,.slice D1 M.first.length e1,.slice D2 M.step.length e2,.slice D3 M.move.length e3,.int .i64 M.sf,.int .i64 M.mf] [.int .i64 k1,.int .i64 k2,.int .i64 k3] rfl rfl Ue Ue Ue Ue hz hy) rfl ⟨⟨⟨D1,e1,D2,e2,D3,e3⟩,rfl,himF⟩,hbF⟩
theorem Km4:(imE prK 1).2=(0,0,0)/\(imE prK 1).1.step.length=4:=by decide +kernel
theorem Kni:Kfk Khl 1=imE prK 1:=by
 unfold Kfk;rw [Knz,if_neg Uh]
theorem Km8:Kfk Kic 1=(Im.zero,(1,4,16)):=by
 unfold Kfk;rw [Klt,if_pos Uh]
theorem Kka (w:World) (hg:Ql w):Calls Tryz.prog 5 #[] w fun r w'=>r = .returned (.bool true)/\Below w.heap.size w w':=by
 have h1:=fun W (h:Below w.heap.size w W)=>Kgl Khl 1 W (Nat.le_trans (show Khl.size<=100 by decide) Uo) (hg.later h) Ua;have h2:=fun W (h:Below w.heap.size w W)=>Kgl Kic 1 W (Nat.le_trans (show Kic.size<=100 by decide) Uo) (hg.later h) Ua;rw [Kni] at h1;rw [Km8] at h2;obtain⟨e1,e2⟩:=Km4;unfold Km5 at h1 h2;rw [e1] at h1;generalize (imE prK 1).1=M at *;obtain⟨mv,mf,me,⟨ma,mb,mc,md,mg⟩,mfirst,mstep,mmove,msf,mmf⟩:=M;dsimp only at e2;unfold imV fV at h1 h2;unfold Khl at h1;unfold Kic at h2;dsimp only [Im.zero,Fr.zero,Nm] at h1 h2;rw [e2] at h1;have hfq1:=fun w=>Jd6 0 0 0 w;have ri:=fun w=>Jd6 1 4 16 w;have fM:Tryz.prog.eqGuardType Tryz.prog.depth 32=false:=Ue;clear e1 e2
 go_enter Tryz.func5,Tryz.ntmps5
 go_upto_region 2 with (go_at_call 6;go_loud (refine(h1 _ (Nt)).mono ?_;rintro r w1 ⟨⟨⟨D1,c1,D2,c2,D3,c3⟩,rfl,him⟩,ac⟩))
 refine Jo fun V hV=>?_;have fk:=Nd w1 V Vj;have bK:=Jd ac fk;have s9:=Nb V w1.heap.size 9 (.slice D2 4 c2) Uj;have f0:=Na V (w1.heap.size+1) 0 0 Uj;have f1:=Na V (w1.heap.size+1) 1 0 Uj;have f2:=Na V (w1.heap.size+1) 2 0 Uj;clear hV fk ac him
 go_upto_region 3 with (go_at_call 6;go_loud (refine(h2 _ bK).mono ?_;rintro r w2 ⟨⟨⟨E1,g1,E2,g2,E3,g3⟩,rfl,him⟩,aq⟩))
 refine Jo fun V2 bz=>?_;have hbx2:=Nd w2 V2 (by rw [bz];exact Jc (Jc (Nt) _) _)
 have aM:=Jd aq hbx2;have q0:=Na V2 (w2.heap.size+1) 0 1 Uu;have q1:=Na V2 (w2.heap.size+1) 1 4 Uu;have q2:=Na V2 (w2.heap.size+1) 2 16 Uu;replace s9:=Ja aM s9;replace f0:=Ja aM f0;replace f1:=Ja aM f1;replace f2:=Ja aM f2;have jh:=Jd bK aM;clear bz hbx2 aq aM him h1 h2 bK
 go_wp2_with fail
 go_ret;exact⟨rfl,jh⟩
end Go.Proofs.YtdgjplldlfeolaaGreatDoor
