/- Lemmas. -/
import Derived.Test.YtdgjplldlfeolaaGreatDoorZ48
import Derived.Deep.RegionLaw
set_option linter.unusedVariables false
set_option linter.unusedSimpArgs false
set_option maxRecDepth 100000
set_option maxHeartbeats 64000000
namespace Go.Proofs.YtdgjplldlfeolaaGreatDoor
open Go.RowKit Go.Sort
theorem Kop {u:Value} {k:Int} : ∀l:List Value,(∀x∈l,∀k,x≠ .int .i32 k)->u∈l->u≠ .int .i32 k:=fun _ h hu=>h _ hu _
theorem Kjw (W V:World) (l1 l2:List Value) (t1 t2:TypeId) (h1:∀u∈l1,∀k,u≠ .int .i32 k) (h2:∀u∈l2,∀k,u≠ .int .i32 k)
  (hb:Below ((W.alloc (.cells l1.toArray t1)).alloc (.cells l2.toArray t2)).heap.size ((W.alloc (.cells l1.toArray t1)).alloc (.cells l2.toArray t2)) V):Khq V W.heap.size/\Khq V (W.heap.size+1):=by
 have n1:=(Khq.new W l1 t1 h1).later (Jc (Below.refl _ _) (.cells l2.toArray t2)) (by simp);have n2:=Khq.new (W.alloc (.cells l1.toArray t1)) l2 t2 h2;rw [show(W.alloc (.cells l1.toArray t1)).heap.size=W.heap.size+1 by simp] at n2;exact⟨n1.later hb (by simp <;> omega),n2.later hb (by simp)⟩
theorem Klr (s:ByteArray) (v:Int) (W:World) (hs:s.size<=maxLen) (hg:Ql W) (hv:0<=v/\v<4294967296) (hf:(Kdm s).2.1=0) :
  Calls Tryz.prog 15 #[.string s,.int .u32 v] W (Kjn W (imE (Kdm s).1 v)):=by
 have hp:=fun w=>Khm s w hs;obtain⟨aw,n1,n2,n3,n4⟩:=Kje s;unfold Khe at hp;generalize Kdm s=P at hp hf aw n1 n2 n3 n4 ⊢;obtain⟨p,e,at0⟩:=P;dsimp only at hp hf aw n1 n2 n3 n4 ⊢;subst hf;have hgi:=fun a w (h:Below W.heap.size W w) (aY:Kr w p a)=>Jiy p a v w (hg.later h) aY aw n1 n2 n3 n4 hv;generalize imE p v=R at hgi ⊢;obtain⟨M,k1,k2,k3⟩:=R;unfold imV fV at hgi;unfold prV at hp hgi;dsimp only at hp hgi;have HGI:=Lib.hid hgi;clear hgi aw n1 n2 n3 n4 hg
 go_enter Tryz.func15,Tryz.ntmps15
 go_upto_region 5 with (first
  | (go_at_call 7;go_loud (refine(hp _).mono ?_;rintro r w1 ⟨⟨⟨A1,c1,A2,c2,A3,c3,A4,c4⟩,rfl,aY⟩,ac⟩;have mz:=aY.later (Jc (Below.refl w1.heap.size w1) (.cells #[.string p.name,.slice A1 p.ins.length c1,.slice A2 p.outs.length c2,.slice A3 p.locals.length c3,.slice A4 p.eqs.length c4] 38));have af:=ac.size;(try simp at af)))
  | (go_at_call 34;go_loud (refine(HGI.out ⟨A1,c1,A2,c2,A3,c3,A4,c4⟩ _ (Jc (Jd (Jc (Jc (Below.refl _ _) _) _) ac) _) mz).mono ?_;rintro r w2 ⟨⟨⟨D1,e1,D2,e2,D3,e3⟩,rfl,him⟩,aq⟩;have br:=aq.size;(try simp at br))))
 refine Jo fun V hV=>?_;have fk:Below w2.heap.size w2 V:=by rw [hV];exact Jc (Jc (Below.refl _ _) _) _
 have hb12:Below w1.heap.size w1 V:=Jd (Jd (Jc (Below.refl _ _) _) aq) fk;have ax:=Jd ac hb12;have dZ:Below W.heap.size W V:=Jd (Jc (Jc (Below.refl _ _) _) _) ax;have p0:V.cell? ⟨w1.heap.size,0,none⟩=some (.string p.name):=Ja fk (Ja aq (by go_simp));have p1:V.cell? ⟨w1.heap.size,1,none⟩=some (.slice A1 p.ins.length c1):=Ja fk (Ja aq (by go_simp));have p2:V.cell? ⟨w1.heap.size,2,none⟩=some (.slice A2 p.outs.length c2):=Ja fk (Ja aq (by go_simp));have p3:V.cell? ⟨w1.heap.size,3,none⟩=some (.slice A3 p.locals.length c3):=Ja fk (Ja aq (by go_simp));have p4:V.cell? ⟨w1.heap.size,4,none⟩=some (.slice A4 p.eqs.length c4):=Ja fk (Ja aq (by go_simp));have m0:V.cell? ⟨w2.heap.size,0,none⟩=some (.int .u32 M.ver):=by rw [hV];go_simp
 have m1:V.cell? ⟨w2.heap.size,1,none⟩=some (.int .u32 M.fro):=by rw [hV];go_simp
 have m2:V.cell? ⟨w2.heap.size,2,none⟩=some (.int .i64 M.eld):=by rw [hV];go_simp
 have m3:V.cell? ⟨w2.heap.size,3,none⟩=some (.int .i64 M.fr.s):=by rw [hV];go_simp
 have m4:V.cell? ⟨w2.heap.size,4,none⟩=some (.int .i64 M.fr.o):=by rw [hV];go_simp
 have m5:V.cell? ⟨w2.heap.size,5,none⟩=some (.int .i64 M.fr.n):=by rw [hV];go_simp
 have m6:V.cell? ⟨w2.heap.size,6,none⟩=some (.int .i64 M.fr.i):=by rw [hV];go_simp
 have m7:V.cell? ⟨w2.heap.size,7,none⟩=some (.int .i64 M.fr.u):=by rw [hV];go_simp
 have m8:V.cell? ⟨w2.heap.size,8,none⟩=some (.slice D1 M.first.length e1):=by rw [hV];go_simp
 have m9:V.cell? ⟨w2.heap.size,9,none⟩=some (.slice D2 M.step.length e2):=by rw [hV];go_simp
 have m10:V.cell? ⟨w2.heap.size,10,none⟩=some (.slice D3 M.move.length e3):=by rw [hV];go_simp
 have m11:V.cell? ⟨w2.heap.size,11,none⟩=some (.int .i64 M.sf):=by rw [hV];go_simp
 have m12:V.cell? ⟨w2.heap.size,12,none⟩=some (.int .i64 M.mf):=by rw [hV];go_simp
 have f0:V.cell? ⟨w2.heap.size+1,0,none⟩=some (.int .i64 k1):=by rw [hV];go_simp
 have f1:V.cell? ⟨w2.heap.size+1,1,none⟩=some (.int .i64 k2):=by rw [hV];go_simp
 have f2:V.cell? ⟨w2.heap.size+1,2,none⟩=some (.int .i64 k3):=by rw [hV];go_simp
 have z0:V.cell? ⟨W.heap.size,0,none⟩=some (.string ⟨#[]⟩):=Ja ax (by go_simp);have z1:V.cell? ⟨W.heap.size,1,none⟩=some (.slice none 0 0):=Ja ax (by go_simp);have z2:V.cell? ⟨W.heap.size,2,none⟩=some (.slice none 0 0):=Ja ax (by go_simp);have z3:V.cell? ⟨W.heap.size,3,none⟩=some (.slice none 0 0):=Ja ax (by go_simp);have z4:V.cell? ⟨W.heap.size,4,none⟩=some (.slice none 0 0):=Ja ax (by go_simp);have z5:V.cell? ⟨W.heap.size,5,none⟩=some (.int .u32 0):=Ja ax (by go_simp);have z6:V.cell? ⟨W.heap.size,6,none⟩=some (.int .u32 0):=Ja ax (by go_simp);have z7:V.cell? ⟨W.heap.size,7,none⟩=some (.int .i64 0):=Ja ax (by go_simp);have z8:V.cell? ⟨W.heap.size,8,none⟩=some (.int .i64 0):=Ja ax (by go_simp);have z9:V.cell? ⟨W.heap.size,9,none⟩=some (.int .i64 0):=Ja ax (by go_simp);have z10:V.cell? ⟨W.heap.size,10,none⟩=some (.int .i64 0):=Ja ax (by go_simp);have z11:V.cell? ⟨W.heap.size,11,none⟩=some (.int .i64 0):=Ja ax (by go_simp);have z12:V.cell? ⟨W.heap.size,12,none⟩=some (.int .i64 0):=Ja ax (by go_simp);have z13:V.cell? ⟨W.heap.size,13,none⟩=some (.slice none 0 0):=Ja ax (by go_simp);have z14:V.cell? ⟨W.heap.size,14,none⟩=some (.slice none 0 0):=Ja ax (by go_simp);have z15:V.cell? ⟨W.heap.size,15,none⟩=some (.slice none 0 0):=Ja ax (by go_simp);have z16:V.cell? ⟨W.heap.size,16,none⟩=some (.int .i64 0):=Ja ax (by go_simp);have z17:V.cell? ⟨W.heap.size,17,none⟩=some (.int .i64 0):=Ja ax (by go_simp);have y0:V.cell? ⟨W.heap.size+1,0,none⟩=some (.int .i64 0):=Ja ax (by go_simp);have y1:V.cell? ⟨W.heap.size+1,1,none⟩=some (.int .i64 0):=Ja ax (by go_simp);have y2:V.cell? ⟨W.heap.size+1,2,none⟩=some (.int .i64 0):=Ja ax (by go_simp);have zf:∀o,V.frozen? ⟨W.heap.size,o,none⟩=false:=fun o=>(Jf ax _ _ (by simp <;> omega)).trans (by go_simp);have yf:∀o,V.frozen? ⟨W.heap.size+1,o,none⟩=false:=fun o=>(Jf ax _ _ (by simp <;> omega)).trans (by go_simp);have oG:=Kjw W V [.string ⟨#[]⟩,.slice none 0 0,.slice none 0 0,.slice none 0 0,.slice none 0 0,.int .u32 0,.int .u32 0,.int .i64 0,.int .i64 0,.int .i64 0,.int .i64 0,.int .i64 0,.int .i64 0,.slice none 0 0,.slice none 0 0,.slice none 0 0,.int .i64 0,.int .i64 0] [.int .i64 0,.int .i64 0,.int .i64 0] 57 32 (by simp) (by simp) ax
 have hZ:∀i,i<([.string ⟨#[]⟩,.slice none 0 0,.slice none 0 0,.slice none 0 0,.slice none 0 0,.int .u32 0,.int .u32 0,.int .i64 0,.int .i64 0,.int .i64 0,.int .i64 0,.int .i64 0,.int .i64 0,.slice none 0 0,.slice none 0 0,.slice none 0 0,.int .i64 0,.int .i64 0]:List Value).length->∃u,V.cell? ⟨W.heap.size,i,none⟩=some u:=fun i hi=>
  ⟨_,Ja ax (J4 ((Kw W _ _ i).trans (by rw [List.getElem?_toArray];exact List.getElem?_eq_getElem (l:=[.string ⟨#[]⟩,.slice none 0 0,.slice none 0 0,.slice none 0 0,.slice none 0 0,.int .u32 0,.int .u32 0,.int .i64 0,.int .i64 0,.int .i64 0,.int .i64 0,.int .i64 0,.int .i64 0,.slice none 0 0,.slice none 0 0,.slice none 0 0,.int .i64 0,.int .i64 0]) hi)))⟩
 have hY:∀i,i<([.int .i64 0,.int .i64 0,.int .i64 0]:List Value).length->∃u,V.cell? ⟨W.heap.size+1,i,none⟩=some u:=fun i hi=>
  ⟨_,Ja ax ((Kmc _ _ _ (by simp) i).trans (by rw [List.getElem?_toArray];exact List.getElem?_eq_getElem (l:=[.int .i64 0,.int .i64 0,.int .i64 0]) hi))⟩
 have HZ:=Lib.hid hZ;have HY:=Lib.hid hY;have HIM:=Lib.hid (him.later fk);have io:=fk.size;have bI:W.heap.size+1<w1.heap.size:=by omega
 have aD:w1.heap.size<w2.heap.size:=by omega
 have fD:w2.heap.size+1<V.heap.size:=by rw [hV];simp
 have HNO:=Lib.hid oG;clear hV fk hb12 ax ac aq him aY mz oG HGI hp hZ hY
 go_region_law (fail)
 all_goals
  go_wp2_with fail
  refine Zc fun F hF=>?_;obtain⟨X,hX,Y,hY2,hF2⟩:∃X,X=Koi V W.heap.size 0 [.string p.name,.slice A1 p.ins.length c1,.slice A2 p.outs.length c2,.slice A3 p.locals.length c3,.slice A4 p.eqs.length c4,.int .u32 M.ver,.int .u32 M.fro,.int .i64 M.eld,.int .i64 M.fr.s,.int .i64 M.fr.o,.int .i64 M.fr.n,.int .i64 M.fr.i,.int .i64 M.fr.u,.slice D1 M.first.length e1,.slice D2 M.step.length e2,.slice D3 M.move.length e3,.int .i64 M.sf,.int .i64 M.mf]/\∃Y,Y=Koi X (W.heap.size+1) 0 [.int .i64 k1,.int .i64 k2,.int .i64 k3]/\F=Y.drew:=⟨_,rfl,_,rfl,hF⟩;clear hF;have aS:W.heap.size≠W.heap.size+1:=by omega
  have cX:∀(j:Nat) (u:Value),([.string p.name,.slice A1 p.ins.length c1,.slice A2 p.outs.length c2,.slice A3 p.locals.length c3,.slice A4 p.eqs.length c4,.int .u32 M.ver,.int .u32 M.fro,.int .i64 M.eld,.int .i64 M.fr.s,.int .i64 M.fr.o,.int .i64 M.fr.n,.int .i64 M.fr.i,.int .i64 M.fr.u,.slice D1 M.first.length e1,.slice D2 M.step.length e2,.slice D3 M.move.length e3,.int .i64 M.sf,.int .i64 M.mf]:List Value)[j]?=some u->X.cell? ⟨W.heap.size,j,none⟩=some u:=fun j u hj=>by
   have h1:=Kom (z:=W.heap.size) [.string p.name,.slice A1 p.ins.length c1,.slice A2 p.outs.length c2,.slice A3 p.locals.length c3,.slice A4 p.eqs.length c4,.int .u32 M.ver,.int .u32 M.fro,.int .i64 M.eld,.int .i64 M.fr.s,.int .i64 M.fr.o,.int .i64 M.fr.n,.int .i64 M.fr.i,.int .i64 M.fr.u,.slice D1 M.first.length e1,.slice D2 M.step.length e2,.slice D3 M.move.length e3,.int .i64 M.sf,.int .i64 M.mf] 0 V (fun i hi=>by rw [Nat.zero_add];exact HZ.out i hi) j u hj;rw [Nat.zero_add,<-hX] at h1;exact h1
  have bX:∀b,b≠W.heap.size->X.heap[b]?=V.heap[b]?:=fun b hb=>by rw [hX];exact Koj hb _ _ _
  have cY:∀(j:Nat) (u:Value),([.int .i64 k1,.int .i64 k2,.int .i64 k3]:List Value)[j]?=some u->Y.cell? ⟨W.heap.size+1,j,none⟩=some u:=fun j u hj=>by
   have h1:=Kom (z:=W.heap.size+1) [.int .i64 k1,.int .i64 k2,.int .i64 k3] 0 X (fun i hi=>by
    rw [Nat.zero_add];obtain⟨x,hx⟩:=HY.out i hi;exact⟨x,Jr (w:=V) (w':=X) (a:=⟨W.heap.size+1,i,none⟩) (bX _ (Ne.symm aS)) hx⟩) j u hj
   rw [Nat.zero_add,<-hY2] at h1;exact h1
  have bY:∀b,b≠W.heap.size+1->Y.heap[b]?=X.heap[b]?:=fun b hb=>by rw [hY2];exact Koj hb _ _ _
  have hbX:Below W.heap.size W X:=by rw [hX];exact Kok (Nat.le_refl _) _ _ _ dZ
  have hbY:Below W.heap.size W Y:=by rw [hY2];exact Kok (Nat.le_succ _) _ _ _ hbX
  clear hX hY2
  have hz:∀(j:Nat) (u:Value),([.string p.name,.slice A1 p.ins.length c1,.slice A2 p.outs.length c2,.slice A3 p.locals.length c3,.slice A4 p.eqs.length c4,.int .u32 M.ver,.int .u32 M.fro,.int .i64 M.eld,.int .i64 M.fr.s,.int .i64 M.fr.o,.int .i64 M.fr.n,.int .i64 M.fr.i,.int .i64 M.fr.u,.slice D1 M.first.length e1,.slice D2 M.step.length e2,.slice D3 M.move.length e3,.int .i64 M.sf,.int .i64 M.mf]:List Value)[j]?=some u->F.cell? ⟨W.heap.size,j,none⟩=some u:=fun j u hj=>by
   rw [hF2];exact(Xi _ _).trans (Jr (w:=X) (w':=Y) (a:=⟨W.heap.size,j,none⟩) (bY _ aS) (cX j u hj))
  have hy:∀(j:Nat) (u:Value),([.int .i64 k1,.int .i64 k2,.int .i64 k3]:List Value)[j]?=some u->F.cell? ⟨W.heap.size+1,j,none⟩=some u:=fun j u hj=>by
   rw [hF2];exact(Xi _ _).trans (cY j u hj)
  have hbF:Below W.heap.size W F:=by rw [hF2];exact Jh hbY
  have himF:Jd5 F M ⟨D1,e1,D2,e2,D3,e3⟩:=HIM.out.aside fun b o k hk=>by
   rw [hF2];exact(bY b (fun he=>HNO.out.2 o k (he ▸ hk))).trans (bX b (fun he=>HNO.out.1 o k (he ▸ hk)))
  clear hF2;exact bodyPost_ret (v:= .tuple #[srV p.name A1 p.ins.length c1 A2 p.outs.length c2 A3 p.locals.length c3 A4 p.eqs.length c4 M ⟨D1,e1,D2,e2,D3,e3⟩,fV (k1,k2,k3)]) (Kol rfl [.string p.name,.slice A1 p.ins.length c1,.slice A2 p.outs.length c2,.slice A3 p.locals.length c3,.slice A4 p.eqs.length c4,.int .u32 M.ver,.int .u32 M.fro,.int .i64 M.eld,.int .i64 M.fr.s,.int .i64 M.fr.o,.int .i64 M.fr.n,.int .i64 M.fr.i,.int .i64 M.fr.u,.slice D1 M.first.length e1,.slice D2 M.step.length e2,.slice D3 M.move.length e3,.int .i64 M.sf,.int .i64 M.mf] [.int .i64 k1,.int .i64 k2,.int .i64 k3] rfl rfl (by kernel_rfl) (by kernel_rfl) (by kernel_rfl) (by kernel_rfl) hz hy) rfl ⟨⟨_,_,_,_,_,_,_,_,_,_,_,_,_,⟨D1,e1,D2,e2,D3,e3⟩,rfl,himF⟩,hbF⟩
end Go.Proofs.YtdgjplldlfeolaaGreatDoor
