/- Lemmas. -/
import Derived.Test.YtdgjplldlfeolaaGreatDoorZ33
import Derived.Test.YtdgjplldlfeolaaGreatDoorZ34
import Derived.Test.YtdgjplldlfeolaaGreatDoorZ18
import Derived.Test.YtdgjplldlfeolaaGreatDoorZ20
import Derived.Test.YtdgjplldlfeolaaGreatDoorZ21
import Derived.Test.YtdgjplldlfeolaaGreatDoorZ17
import Derived.Test.YtdgjplldlfeolaaGreatDoorZ01
import Derived.Laws.OwnMore
import Derived.Test.YtdgjplldlfeolaaGreatDoorZ02
set_option linter.unusedVariables false
set_option linter.unusedSimpArgs false
set_option maxRecDepth 100000
set_option maxHeartbeats 64000000
namespace Go.Proofs.YtdgjplldlfeolaaGreatDoor
open Go.RowKit Go.Sort Go.Maps Go.ChangeMaps Go.WideMaps
theorem Qd.toG {P:Program} {k e:TypeId} {K:Type} {ok:K->Prop} {kl:K->Lit} {W:World} {b n c:Nat} {f:K->Option Int} (h:Qd P k (plainElem P e) ok kl okI (Lit.int .i32) 0 W b n f c):Q3 P k e .i32 ok kl W b n f c:=by
 obtain⟨D,h1,h2,h3,h4⟩:=h;exact⟨D,h1,h2,h3,fun x hx=>(h4 x hx).1⟩
theorem Jfw.plan {W:World} {X Bs Bt Bf:Nat} {L:List Va} {cs:List Ce} {A:Option Addr} {cap:Nat} (h:Jfw W X Bs Bt Bf L cs A cap) (hn:(L.map (·.name)).Nodup) (hf:∀d,okC d->(Jeg cs d).getD 0=Kg cs d):Jb1 W X Bs Bf (Xu L) (Kg cs):=by
 obtain⟨c,gM⟩:=h.flags;exact⟨h.c0,h.c2,⟨_,_,_,h.slots.toG,fun s _=>by rw [Jrw s L hn];rfl⟩,⟨_,_,_,gM.toG,hf⟩⟩
theorem Jfw.later {W W':World} {X Bs Bt Bf:Nat} {L:List Va} {cs:List Ce} {A:Option Addr} {cap:Nat} (h:Jfw W X Bs Bt Bf L cs A cap) (hb:Below W.heap.size W W'):Jfw W' X Bs Bt Bf L cs A cap:=by
 obtain⟨c0,c1,c2,c3,s,k,⟨c,f⟩⟩:=h;exact⟨Ja hb c0,Ja hb c1,Ja hb c2,Ja hb c3,s.bel hb,k.bel hb,⟨c,f.bel hb⟩⟩
end Go.Proofs.YtdgjplldlfeolaaGreatDoor
namespace Go.Proofs.YtdgjplldlfeolaaGreatDoor
open Go.RowKit Go.Sort
theorem Ju4 {op N:Int} (h:Qj (op,N)=0) (hN:I32 N):Qp op=4/\op=1\/Qp op=2/\(Xh N:Int)=N/\N<=65535\/Qp op=1/\(Xh N:Int)=N/\N<=255:=by
 unfold I32 at hN;unfold Qj at h;dsimp only at h;unfold Xh
 by_cases h0:Qp op=0
 ·rw [if_pos h0] at h;exact absurd h (by decide)
 rw [if_neg h0] at h
 by_cases h4:Qp op=4
 ·left
  refine⟨h4,?_⟩;unfold Qp at h4
  repeat' split at h4
  all_goals omega
 rw [if_neg h4] at h
 by_cases h8:op=8/\(N<1\/2<N)
 ·rw [if_pos h8] at h;exact absurd h (by decide)
 rw [if_neg h8] at h
 by_cases h9:op=9/\(N<1\/16<N)
 ·rw [if_pos h9] at h;exact absurd h (by decide)
 rw [if_neg h9] at h
 by_cases h2:Qp op=2/\(N<0\/65535<N)
 ·rw [if_pos h2] at h;exact absurd h (by decide)
 rw [if_neg h2] at h
 by_cases h1:Qp op=1/\(N<0\/255<N)
 ·rw [if_pos h1] at h;exact absurd h (by decide)
 have hw:=Jlt op
 have h3:Qp op≠3:=by
  unfold Qp
  repeat' split
  all_goals omega
 omega
theorem Jka (W:World) (c:Array Value) (t:TypeId) {u:Int} (hc:c = #[.int .u8 u]):Qc (W.alloc (.cells c t)) (byU [u]) 1 (some ⟨W.heap.size,0,none⟩) 1:=by
 subst hc;refine⟨Nat.le_refl _,by unfold maxLen;omega,rfl,fun _=>⟨W.heap.size,0,rfl,fun j u hj=>?_⟩⟩;rw [Nat.zero_add,Kw];simpa [byU] using hj
theorem Js5 (op N:Int) (w:World) (h:Qj (op,N)=0) (hN:I32 N) (jf:1<=op/\op<=11) :
  Calls Tryz.prog 98 #[.agg #[.int .i64 op,.int .i32 N]] w (Y8 w (Jdm (op,N))):=by
 have aB:=fun w=>Jlr op N w;unfold Jby at aB;rw [h] at aB
 have ky:IntKind.u8.wrap op=op:=by
  simp [IntKind.wrap,IntKind.bits,IntKind.signed];omega
 have dS:=Jne N
 have nL:IntKind.u64.wrap ((Xh N:Nat):Int)=((Xh N:Nat):Int):=by
  simp [IntKind.wrap,IntKind.bits,IntKind.signed];omega
 have iF:∀(g:Nat) (W:World),Qc W (byU [op]) 1 (some ⟨g,0,none⟩) 1->Calls Tryz.prog 59 #[.slice (some ⟨g,0,none⟩) 1 1,.int .i64 (Qp op),.int .u64 (Xh N:Nat)] W (Y8 W (Jdm (op,N))):=by
  intro g W hc;unfold Jdm
  rcases Ju4 h hN with ⟨h1,_⟩|⟨h1,h2,h3⟩|⟨h1,h2,h3⟩
  ·dsimp only;rw [h1];exact Jnb [op] (some ⟨g,0,none⟩) 1 (Xh N) W hc (by simp) (by omega)
  ·dsimp only;rw [h1];exact Jig [op] (some ⟨g,0,none⟩) 1 (Xh N) W hc (by simp) (by omega)
  ·dsimp only;rw [h1];exact Jm0 [op] (some ⟨g,0,none⟩) 1 (Xh N) W hc (by simp) (by omega)
 have kT:=Lib.hid iF;have cO:=fun W=>Jdz op W;have mh:=fun W=>Jln N W;generalize Jdm (op,N)=bs at *;clear h hN iF;unfold Y8
 go_enter Tryz.func98,Tryz.ntmps98
 go_wp2_with (first|(go_at_call 95;refine mo (aB _) fun w1 ac ak af bV=>?_;(try simp at af)))
 refine Jo fun W0 ag=>?_;have q0:W0.cell? ⟨w.heap.size,0,none⟩=some (.int .i64 op):=by rw [ag];go_simp
 have q1:W0.cell? ⟨w.heap.size,1,none⟩=some (.int .i32 N):=by rw [ag];go_simp
 have aC:Below w.heap.size w W0:=by rw [ag];exact Jb
 have hz:=aC.size;have su:=block_lt_of_cell q0;clear ag;have hS:∀w',Below W0.heap.size W0 w'->w'.cell? ⟨w.heap.size,0,none⟩=some (.int .i64 op)/\w'.cell? ⟨w.heap.size,1,none⟩=some (.int .i32 N):=fun w' hb=>⟨Ja hb q0,Ja hb q1⟩;have HS:=Lib.hid hS;have ar:=hS W0.drew (Jh (Below.refl _ _));have lA:Below W0.heap.size W0 W0.drew:=Jh (Below.refl _ _);have hds:W0.drew.heap.size=W0.heap.size:=rfl;clear hS q0 q1 su;refine Kd (fun w'=>w'.cell? ⟨w.heap.size,0,none⟩=some (.int .i64 op)/\w'.cell? ⟨w.heap.size,1,none⟩=some (.int .i32 N)) 14 2 (by kernel_rfl) (by rfl) ?_;simp only [List.size_toArray,List.length_cons,List.length_nil,Nat.zero_add,Nat.reduceAdd];refine Ji 0 ar ?_;refine Ji 1 ar ?_;refine Ji 2 ar ?_;refine Ji 4 ar ?_;refine Ji 5 ar ?_;refine Ji 7 ar ?_;refine Ji 8 ar ?_;refine Jfe (i:=3) (j:=6) (by kernel_rfl) (by simp only [List.getElem?_toArray,List.getElem?_cons_succ,List.getElem?_cons_zero];rfl) (by simp only [List.getElem?_toArray,List.getElem?_cons_succ,List.getElem?_cons_zero];rfl) rfl rfl ?_ ?_
 ·refine Jj fun K hK=>?_;go_simp;refine hK _ _ ⟨HS.out _ (Jh (Jc (Below.refl _ _) _)),?_⟩;clear hK K
  try simp only [Act.put,sa1,sa2,sa3]
  refine Kb 6 ?_;refine Jj fun K hK=>?_;go_simp;refine(cO _).mono ?_;rintro r wf ⟨rfl,bZ⟩;dsimp only;have cT:Below W0.heap.size W0 wf:=Jd (Jh (Jc (Below.refl _ _) _)) bZ;refine hK _ _ ⟨HS.out wf cT,?_⟩;clear hK K
  try simp only [Act.put,sa1,sa2,sa3]
  have hcel:Qc wf (byU [op]) 1 (some ⟨W0.heap.size,0,none⟩) 1:=((Jka W0 #[.int .u8 op] 5 rfl).later (Jh (Below.refl _ _))).later bZ;refine Kb 9 ?_;refine Jj fun K hK=>?_;go_simp;refine(mh _).mono ?_;rintro r wp ⟨rfl,tF⟩;dsimp only;subst tF;refine hK _ _ ⟨HS.out _ cT,?_⟩;clear hK K
  try simp only [Act.put,sa1,sa2,sa3]
  have dr:=HS.out _ cT;refine Ji 10 dr ?_;refine Kb 11 ?_;refine Jj fun K hK=>?_;go_simp;refine(kT.out _ _ hcel).mono ?_;rintro r wz ⟨⟨v,rfl,ae⟩,gt⟩;dsimp only;have cF:Below W0.heap.size W0 wz:=Jd cT gt;refine hK _ _ ⟨HS.out wz cF,?_⟩;clear hK K
  try simp only [Act.put,sa1,sa2,sa3]
  have eI:=cT.size;have dk:=HS.out wz cF;refine Ji 12 dk ?_;refine Ji 13 dk ?_;refine Kh (by kernel_rfl) ?_;refine Qx 14 ?_;refine Jj fun K hK=>?_;go_simp;refine hK _ _ ?_;clear hK K
  try simp only [Act.put,sa1,sa2,sa3]
  refine Qx 15 ?_;refine Jj fun K hK=>?_;go_simp;refine hK _ _ ?_;clear hK K
  try simp only [Act.put,sa1,sa2,sa3]
  refine Ki (by kernel_rfl) ?_;have jh:Below w.heap.size w wz:=Jd aC cF;have fN:=K8 ae (show w.heap.size<=_ by first|omega|(simp;omega));clear ar dr dk kT
  go_wp2_with fail
  go_ret2
  exact⟨⟨_,rfl,fN⟩,jh⟩
 ·refine Jj fun K hK=>?_;go_simp;refine(cO _).mono ?_;rintro r wf ⟨rfl,bZ⟩;dsimp only;have cT:Below W0.heap.size W0 wf:=Jd lA bZ;refine hK _ _ ⟨HS.out wf cT,?_⟩;clear hK K
  try simp only [Act.put,sa1,sa2,sa3]
  have dr:=HS.out _ cT;have eI:=cT.size;refine Jfe (i:=3) (j:=9) (by kernel_rfl) (by simp only [List.getElem?_toArray,List.getElem?_cons_succ,List.getElem?_cons_zero];rfl) (by simp only [List.getElem?_toArray,List.getElem?_cons_succ,List.getElem?_cons_zero];rfl) rfl rfl ?_ ?_
  ·refine Jj fun K hK=>?_;go_simp;refine hK _ _ ⟨HS.out _ (Jc cT _),?_⟩;clear hK K
   try simp only [Act.put,sa1,sa2,sa3]
   refine Kb 9 ?_;refine Jj fun K hK=>?_;go_simp;refine(mh _).mono ?_;rintro r wp ⟨rfl,tF⟩;dsimp only;subst tF;refine hK _ _ ⟨HS.out _ (Jc cT _),?_⟩;clear hK K
   try simp only [Act.put,sa1,sa2,sa3]
   refine Ji 10 (HS.out _ (Jc cT _)) ?_;refine Kb 11 ?_;refine Jj fun K hK=>?_;go_simp;refine(kT.out _ _ (Jka _ _ _ rfl)).mono ?_;rintro r wz ⟨⟨v,rfl,ae⟩,gt⟩;dsimp only;have cF:Below W0.heap.size W0 wz:=Jd (Jc cT _) gt;refine hK _ _ ⟨HS.out wz cF,?_⟩;clear hK K
   try simp only [Act.put,sa1,sa2,sa3]
   have dk:=HS.out wz cF;refine Ji 12 dk ?_;refine Ji 13 dk ?_;refine Kh (by kernel_rfl) ?_;refine Qx 14 ?_;refine Jj fun K hK=>?_;go_simp;refine hK _ _ ?_;clear hK K
   try simp only [Act.put,sa1,sa2,sa3]
   refine Qx 15 ?_;refine Jj fun K hK=>?_;go_simp;refine hK _ _ ?_;clear hK K
   try simp only [Act.put,sa1,sa2,sa3]
   refine Ki (by kernel_rfl) ?_;have jh:Below w.heap.size w wz:=Jd aC cF;have fN:=K8 ae (show w.heap.size<=_ by first|omega|(simp;omega));clear ar dr dk kT
   go_wp2_with fail
   go_ret2
   exact⟨⟨_,rfl,fN⟩,jh⟩
  ·refine Jj fun K hK=>?_;go_simp;refine(mh _).mono ?_;rintro r wp ⟨rfl,tF⟩;dsimp only;subst tF;refine hK _ _ ⟨HS.out _ cT,?_⟩;clear hK K
   try simp only [Act.put,sa1,sa2,sa3]
   refine Ji 10 dr ?_;refine Kb 3 ?_;refine Jj fun K hK=>?_;go_simp;refine hK _ _ ⟨HS.out _ (Jc cT _),?_⟩;clear hK K
   try simp only [Act.put,sa1,sa2,sa3]
   refine Kb 11 ?_;refine Jj fun K hK=>?_;go_simp;refine(kT.out _ _ (Jka _ _ _ rfl)).mono ?_;rintro r wz ⟨⟨v,rfl,ae⟩,gt⟩;dsimp only;have cF:Below W0.heap.size W0 wz:=Jd (Jc cT _) gt;refine hK _ _ ⟨HS.out wz cF,?_⟩;clear hK K
   try simp only [Act.put,sa1,sa2,sa3]
   have dk:=HS.out wz cF;refine Ji 12 dk ?_;refine Ji 13 dk ?_;refine Kh (by kernel_rfl) ?_;refine Qx 14 ?_;refine Jj fun K hK=>?_;go_simp;refine hK _ _ ?_;clear hK K
   try simp only [Act.put,sa1,sa2,sa3]
   refine Qx 15 ?_;refine Jj fun K hK=>?_;go_simp;refine hK _ _ ?_;clear hK K
   try simp only [Act.put,sa1,sa2,sa3]
   refine Ki (by kernel_rfl) ?_;have jh:Below w.heap.size w wz:=Jd aC cF;have fN:=K8 ae (show w.heap.size<=_ by first|omega|(simp;omega));clear ar dr dk kT
   go_wp2_with fail
   go_ret2
   exact⟨⟨_,rfl,fN⟩,jh⟩
theorem Kg2 {s:ByteArray} (h:0<s.size):Kgi s=(s[0].toNat:Int):=by unfold Kgi;rw [dif_pos h]
theorem Kj6 (s:ByteArray) (W:World) (h0:0<s.size) (hs:s.size<=1000000) (hl:Zh (s[0].toNat:Int)=true) :
  Calls Tryz.prog 36 #[.string s] W fun r w'=>r = .returned (.tuple #[tkV (Kdg s).1,.int .i64 (Kdg s).2])/\Below W.heap.size W w':=by
 have hb:s[0].toNat<256:=UInt8.toNat_lt _
 have hv:Kdg s=if Jdo (Kc8 Q5 s)=true then(⟨3,Kc8 Q5 s,0,0⟩,0) else if 16<(Kc8 Q5 s).size then(⟨1,Kc8 Q5 s,0,0⟩,3) else(⟨1,Kc8 Q5 s,0,0⟩,0):=by
  unfold Kdg;rw [Kg2 h0,if_pos hl]
 have hh:=fun w=>Jsk s w (by unfold maxLen;omega)
 change ∀w,Calls Tryz.prog 74 #[.string s,.func (.func 78) #[] #[]] w fun r w'=>r = .returned (.string (Kc8 Q5 s))/\Below w.heap.size w w' at hh
 have nn:=Kgd Q5 s;generalize Kc8 Q5 s=n at hh hv nn;have am:=fun w=>Jkp (s[0].toNat:Int) w;rw [hl] at am;have hwd:=fun w=>Jwp n w;generalize Kdg s=V at hv ⊢
 cases hw:Jdo n
 ·rw [hw,if_neg (by simp)] at hv;rw [hw] at hwd
  by_cases h16:16<n.size
  ·rw [if_pos h16] at hv;have d1:decide (16<(n.size:Int))=true:=by simp;omega
   have HV:=Lib.hid hv;clear hv
   go_enter Tryz.func36,Tryz.ntmps36
   go_wp2_with (first
    | (go_at_call 77;refine(am _).mono ?_;rintro r w0 ⟨rfl,rfl⟩)
    | (go_at_call 74;go_loud (refine(hh _).mono ?_;rintro r w1 ⟨rfl,ac⟩;have af:=ac.size;(try simp at af);have bV:W.heap.size<w1.heap.size:=(by omega);have ak:=Jg ac;have db:=Jf ac;have z0:w1.cell? ⟨W.heap.size,0,none⟩=some (.int .i64 0):=(ak _ _ (by simp)).trans (by go_simp);have z1:w1.cell? ⟨W.heap.size,1,none⟩=some (.string ⟨#[]⟩):=(ak _ _ (by simp)).trans (by go_simp);have z2:w1.cell? ⟨W.heap.size,2,none⟩=some (.int .i32 0):=(ak _ _ (by simp)).trans (by go_simp);have z3:w1.cell? ⟨W.heap.size,3,none⟩=some (.int .i64 0):=(ak _ _ (by simp)).trans (by go_simp);have zf:∀o,w1.frozen? ⟨W.heap.size,o,none⟩=false:=fun o=>(db _ _ (by simp)).trans (by go_simp)))
    | (go_at_call 79;go_loud (refine(hwd _).mono ?_;rintro r w2 ⟨rfl,rfl⟩)))
   refine bodyPost_ret (v:= .tuple #[tkV ⟨1,n,0,0⟩,.int .i64 3]) (by simp [results,Tryz.results36,go_sem,tkV, *]) rfl ⟨by rw [HV.out],?_⟩;exact Jc (Ke7 _ _ _ _ (Jd (Jc (Below.refl _ _) _) ac) (Nat.le_refl _)) _
  ·rw [if_neg h16] at hv;have d1:decide (16<(n.size:Int))=false:=by simp;omega
   have HV:=Lib.hid hv;clear hv
   go_enter Tryz.func36,Tryz.ntmps36
   go_wp2_with (first
    | (go_at_call 77;refine(am _).mono ?_;rintro r w0 ⟨rfl,rfl⟩)
    | (go_at_call 74;go_loud (refine(hh _).mono ?_;rintro r w1 ⟨rfl,ac⟩;have af:=ac.size;(try simp at af);have bV:W.heap.size<w1.heap.size:=(by omega);have ak:=Jg ac;have db:=Jf ac;have z0:w1.cell? ⟨W.heap.size,0,none⟩=some (.int .i64 0):=(ak _ _ (by simp)).trans (by go_simp);have z1:w1.cell? ⟨W.heap.size,1,none⟩=some (.string ⟨#[]⟩):=(ak _ _ (by simp)).trans (by go_simp);have z2:w1.cell? ⟨W.heap.size,2,none⟩=some (.int .i32 0):=(ak _ _ (by simp)).trans (by go_simp);have z3:w1.cell? ⟨W.heap.size,3,none⟩=some (.int .i64 0):=(ak _ _ (by simp)).trans (by go_simp);have zf:∀o,w1.frozen? ⟨W.heap.size,o,none⟩=false:=fun o=>(db _ _ (by simp)).trans (by go_simp)))
    | (go_at_call 79;go_loud (refine(hwd _).mono ?_;rintro r w2 ⟨rfl,rfl⟩)))
   refine bodyPost_ret (v:= .tuple #[tkV ⟨1,n,0,0⟩,.int .i64 0]) (by simp [results,Tryz.results36,go_sem,tkV, *]) rfl ⟨by rw [HV.out],?_⟩;exact Jc (Ke7 _ _ _ _ (Jd (Jc (Below.refl _ _) _) ac) (Nat.le_refl _)) _
 ·rw [hw,if_pos rfl] at hv;rw [hw] at hwd;have HV:=Lib.hid hv;clear hv
  go_enter Tryz.func36,Tryz.ntmps36
  go_wp2_with (first
   | (go_at_call 77;refine(am _).mono ?_;rintro r w0 ⟨rfl,rfl⟩)
   | (go_at_call 74;go_loud (refine(hh _).mono ?_;rintro r w1 ⟨rfl,ac⟩;have af:=ac.size;(try simp at af);have bV:W.heap.size<w1.heap.size:=(by omega);have ak:=Jg ac;have db:=Jf ac;have z0:w1.cell? ⟨W.heap.size,0,none⟩=some (.int .i64 0):=(ak _ _ (by simp)).trans (by go_simp);have z1:w1.cell? ⟨W.heap.size,1,none⟩=some (.string ⟨#[]⟩):=(ak _ _ (by simp)).trans (by go_simp);have z2:w1.cell? ⟨W.heap.size,2,none⟩=some (.int .i32 0):=(ak _ _ (by simp)).trans (by go_simp);have z3:w1.cell? ⟨W.heap.size,3,none⟩=some (.int .i64 0):=(ak _ _ (by simp)).trans (by go_simp);have zf:∀o,w1.frozen? ⟨W.heap.size,o,none⟩=false:=fun o=>(db _ _ (by simp)).trans (by go_simp)))
   | (go_at_call 79;go_loud (refine(hwd _).mono ?_;rintro r w2 ⟨rfl,rfl⟩)))
  refine bodyPost_ret (v:= .tuple #[tkV ⟨3,n,0,0⟩,.int .i64 0]) (by simp [results,Tryz.results36,go_sem,tkV, *]) rfl ⟨by rw [HV.out],?_⟩;exact Jc (Ke7 _ _ _ _ (Jd (Jc (Below.refl _ _) _) ac) (Nat.le_refl _)) _
theorem Kkl (s:ByteArray) (W:World) (h0:0<s.size) (hs:s.size<=1000000) (hl:Zh (s[0].toNat:Int)=false) (hg:Jbz (s[0].toNat:Int)=true) :
  Calls Tryz.prog 36 #[.string s] W fun r w'=>r = .returned (.tuple #[tkV (Kdg s).1,.int .i64 (Kdg s).2])/\Below W.heap.size W w':=by
 have hb:s[0].toNat<256:=UInt8.toNat_lt _
 have hv:Kdg s=if (Kfw (Kc8 Jbz s)).2=true then(⟨2,Kc8 Jbz s,(Kfw (Kc8 Jbz s)).1,0⟩,0) else(⟨2,Kc8 Jbz s,0,0⟩,16):=by
  unfold Kdg;rw [Kg2 h0,if_neg (by rw [hl];simp),if_pos hg]
 have hh:=fun w=>Kli s w (by unfold maxLen;omega)
 change ∀w,Calls Tryz.prog 74 #[.string s,.func (.func 80) #[] #[]] w fun r w'=>r = .returned (.string (Kc8 Jbz s))/\Below w.heap.size w w' at hh
 have nn:=Kgd Jbz s;have xb:=fun w=>Knl (Kc8 Jbz s) w (by unfold maxLen;omega);generalize Kfw (Kc8 Jbz s)=q at hv xb;generalize Kc8 Jbz s=n at hh hv nn xb;obtain⟨qn,qb⟩:=q;dsimp only at hv xb;have am:=fun w=>Jkp (s[0].toNat:Int) w;rw [hl] at am;have hdt:=fun w=>Ju5 (s[0].toNat:Int) w;rw [hg] at hdt;generalize Kdg s=V at hv ⊢
 cases qb
 ·rw [if_neg (by simp)] at hv;have HV:=Lib.hid hv;clear hv
  go_enter Tryz.func36,Tryz.ntmps36
  go_wp2_with (first
   | (go_at_call 77;refine(am _).mono ?_;rintro r w0 ⟨rfl,rfl⟩)
   | (go_at_call 80;refine(hdt _).mono ?_;rintro r w0 ⟨rfl,rfl⟩)
   | (go_at_call 74;go_loud (refine(hh _).mono ?_;rintro r w1 ⟨rfl,ac⟩;have af:=ac.size;(try simp at af);have bV:W.heap.size<w1.heap.size:=(by omega);have ak:=Jg ac;have db:=Jf ac;have z0:w1.cell? ⟨W.heap.size,0,none⟩=some (.int .i64 0):=(ak _ _ (by simp)).trans (by go_simp);have z1:w1.cell? ⟨W.heap.size,1,none⟩=some (.string ⟨#[]⟩):=(ak _ _ (by simp)).trans (by go_simp);have z2:w1.cell? ⟨W.heap.size,2,none⟩=some (.int .i32 0):=(ak _ _ (by simp)).trans (by go_simp);have z3:w1.cell? ⟨W.heap.size,3,none⟩=some (.int .i64 0):=(ak _ _ (by simp)).trans (by go_simp);have zf:∀o,w1.frozen? ⟨W.heap.size,o,none⟩=false:=fun o=>(db _ _ (by simp)).trans (by go_simp)))
   | (go_at_call 81;go_loud (refine(xb _).mono ?_;rintro r w2 ⟨rfl,rfl⟩)))
  refine bodyPost_ret (v:= .tuple #[tkV ⟨2,n,0,0⟩,.int .i64 16]) (by simp [results,Tryz.results36,go_sem,tkV, *]) rfl ⟨by rw [HV.out],?_⟩;exact Jc (Ke7 _ _ _ _ (Jd (Jc (Below.refl _ _) _) ac) (Nat.le_refl _)) _
 ·rw [if_pos rfl] at hv;have HV:=Lib.hid hv;clear hv
  go_enter Tryz.func36,Tryz.ntmps36
  go_wp2_with (first
   | (go_at_call 77;refine(am _).mono ?_;rintro r w0 ⟨rfl,rfl⟩)
   | (go_at_call 80;refine(hdt _).mono ?_;rintro r w0 ⟨rfl,rfl⟩)
   | (go_at_call 74;go_loud (refine(hh _).mono ?_;rintro r w1 ⟨rfl,ac⟩;have af:=ac.size;(try simp at af);have bV:W.heap.size<w1.heap.size:=(by omega);have ak:=Jg ac;have db:=Jf ac;have z0:w1.cell? ⟨W.heap.size,0,none⟩=some (.int .i64 0):=(ak _ _ (by simp)).trans (by go_simp);have z1:w1.cell? ⟨W.heap.size,1,none⟩=some (.string ⟨#[]⟩):=(ak _ _ (by simp)).trans (by go_simp);have z2:w1.cell? ⟨W.heap.size,2,none⟩=some (.int .i32 0):=(ak _ _ (by simp)).trans (by go_simp);have z3:w1.cell? ⟨W.heap.size,3,none⟩=some (.int .i64 0):=(ak _ _ (by simp)).trans (by go_simp);have zf:∀o,w1.frozen? ⟨W.heap.size,o,none⟩=false:=fun o=>(db _ _ (by simp)).trans (by go_simp)))
   | (go_at_call 81;go_loud (refine(xb _).mono ?_;rintro r w2 ⟨rfl,rfl⟩)))
  refine bodyPost_ret (v:= .tuple #[tkV ⟨2,n,qn,0⟩,.int .i64 0]) (by simp [results,Tryz.results36,go_sem,tkV, *]) rfl ⟨by rw [HV.out],?_⟩;exact Jc (Ke7 _ _ _ _ (Jd (Jc (Below.refl _ _) _) ac) (Nat.le_refl _)) _
theorem Klp (s:ByteArray) (W:World) (h0:0<s.size) (hs:s.size<=1000000) (hl:Zh (s[0].toNat:Int)=false) (hg:Jbz (s[0].toNat:Int)=false) :
  Calls Tryz.prog 36 #[.string s] W fun r w'=>r = .returned (.tuple #[tkV (Kdg s).1,.int .i64 (Kdg s).2])/\Below W.heap.size W w':=by
 have hb:s[0].toNat<256:=UInt8.toNat_lt _
 have hv:Kdg s=if 2<=s.size/\Kfl (s.extract 0 2)=true then(⟨4,s.extract 0 2,0,0⟩,0) else if 1<=s.size/\Kfl (s.extract 0 1)=true then(⟨4,s.extract 0 1,0,0⟩,0) else(⟨0,⟨#[]⟩,0,0⟩,15):=by
  unfold Kdg;rw [Kg2 h0,if_neg (by rw [hl];simp),if_neg (by rw [hg];simp)]
 have am:=fun w=>Jkp (s[0].toNat:Int) w;rw [hl] at am;have hdt:=fun w=>Ju5 (s[0].toNat:Int) w;rw [hg] at hdt;have cI:=fun w=>Kjh (s.extract 0 2) w;have iw:=fun w=>Kjh (s.extract 0 1) w;generalize Kfl (s.extract 0 2)=b2 at hv cI;generalize Kfl (s.extract 0 1)=b1 at hv iw;generalize Kdg s=V at hv ⊢;have HV:=Lib.hid hv;clear hv
 go_enter Tryz.func36,Tryz.ntmps36
 go_wp2_with (first
  | (go_at_call 77;refine(am _).mono ?_;rintro r w0 ⟨rfl,rfl⟩)
  | (go_at_call 80;refine(hdt _).mono ?_;rintro r w0 ⟨rfl,rfl⟩))
 refine Jo fun W0 ag=>?_;have ab:Below W.heap.size W W0:=by rw [ag];exact Jc (Jc (Below.refl _ _) _) _
 have q0:W0.cell? ⟨W.heap.size+1,0,none⟩=some (.int .i64 2):=by rw [ag];go_simp
 have q1:W0.cell? ⟨W.heap.size+1,1,none⟩=some (.int .i64 1):=by rw [ag];go_simp
 have z0:W0.cell? ⟨W.heap.size,0,none⟩=some (.int .i64 0):=by rw [ag];go_simp
 have z1:W0.cell? ⟨W.heap.size,1,none⟩=some (.string ⟨#[]⟩):=by rw [ag];go_simp
 have z2:W0.cell? ⟨W.heap.size,2,none⟩=some (.int .i32 0):=by rw [ag];go_simp
 have z3:W0.cell? ⟨W.heap.size,3,none⟩=some (.int .i64 0):=by rw [ag];go_simp
 have zf:∀o,W0.frozen? ⟨W.heap.size,o,none⟩=false:=by intro o;rw [ag];go_simp
 clear ag
 go_loopw [48] (fun i wr=>∃k:Nat,k<=2/\i = .int .i64 k/\(1<=k->¬(2<=s.size/\b2=true))/\(2<=k->¬(1<=s.size/\b1=true))/\wr=W0) (fun i _=>2-(intOf i).toNat)
 case atStart=>exact⟨0,by omega,rfl,fun h=>absurd h (by omega),fun h=>absurd h (by omega),rfl⟩
 case round=>
  obtain⟨k,hk,rfl,ii,gL,rfl⟩:=hrel;obtain rfl|rfl|rfl:k=0\/k=1\/k=2:=by omega
  ·clear ii gL
   by_cases h2:2<=s.size
   ·have d2:decide (2<=(s.size:Int))=true:=by simp;omega
    have h2i:(2:Int)<=(s.size:Int):=by omega
    cases b2
    ·clear HV
     go_wp2_with (go_at_call 82;go_loud (refine(cI _).mono ?_;rintro r w2 ⟨rfl,rfl⟩))
     go_roundw
     case rel=>exact⟨1,by omega,rfl,fun _ h=>by simp at h,fun h=>absurd h (by omega),by first|trivial|rfl⟩
     case measure=>simp [intOf]
    ·have hv:=HV.out;rw [if_pos ⟨h2,rfl⟩] at hv;have bL:=Lib.hid hv;clear HV hv
     go_wp2_with (go_at_call 82;go_loud (refine(cI _).mono ?_;rintro r w2 ⟨rfl,rfl⟩))
     refine bodyPost_ret (v:= .tuple #[tkV ⟨4,s.extract 0 2,0,0⟩,.int .i64 0]) (by simp [results,Tryz.results36,go_sem,tkV, *]) rfl ⟨by rw [bL.out],?_⟩;exact Ke7 _ _ _ _ ab (Nat.le_refl _)
   ·have d2:decide (2<=(s.size:Int))=false:=by simp;omega
    go_wp2_with fail
    go_roundw
    case rel=>exact⟨1,by omega,rfl,fun _ h=>h2 h.1,fun h=>absurd h (by omega),by first|trivial|rfl⟩
    case measure=>simp [intOf]
  ·have d2:decide (1<=(s.size:Int))=true:=by simp;omega
   have h2i:(1:Int)<=(s.size:Int):=by omega
   have hp:=ii (by omega);clear gL ii
   cases b1
   ·clear HV;have HPP:=Lib.hid hp;clear hp
    go_wp2_with (go_at_call 82;go_loud (refine(iw _).mono ?_;rintro r w2 ⟨rfl,rfl⟩))
    go_roundw
    case rel=>exact⟨2,by omega,rfl,fun _=>HPP.out,fun _ h=>by simp at h,by first|trivial|rfl⟩
    case measure=>simp [intOf]
   ·have hv:=HV.out;rw [if_neg hp,if_pos ⟨h0,rfl⟩] at hv;have bL:=Lib.hid hv;clear HV hv hp
    go_wp2_with (go_at_call 82;go_loud (refine(iw _).mono ?_;rintro r w2 ⟨rfl,rfl⟩))
    refine bodyPost_ret (v:= .tuple #[tkV ⟨4,s.extract 0 1,0,0⟩,.int .i64 0]) (by simp [results,Tryz.results36,go_sem,tkV, *]) rfl ⟨by rw [bL.out],?_⟩;exact Ke7 _ _ _ _ ab (Nat.le_refl _)
  ·have hv:=HV.out;rw [if_neg (ii (by omega)),if_neg (gL (by omega))] at hv;have bL:=Lib.hid hv;clear HV hv ii gL
   go_wp2_with fail
   refine bodyPost_ret (v:= .tuple #[tkV ⟨0,⟨#[]⟩,0,0⟩,.int .i64 15]) (by simp [results,Tryz.results36,go_sem,tkV, *]) rfl ⟨by rw [bL.out],?_⟩;exact Ke7 _ _ _ _ ab (Nat.le_refl _)
theorem Kly (s:ByteArray) (W:World) (h0:0<s.size) (hs:s.size<=1000000) :
  Calls Tryz.prog 36 #[.string s] W fun r w'=>r = .returned (.tuple #[tkV (Kdg s).1,.int .i64 (Kdg s).2])/\Below W.heap.size W w':=by
 cases hl:Zh (s[0].toNat:Int)
 ·cases hg:Jbz (s[0].toNat:Int)
  ·exact Klp s W h0 hs hl hg
  ·exact Kkl s W h0 hs hl hg
 ·exact Kj6 s W h0 hs hl
theorem Kn6:(Tryz.prog.info? 103).map (fun i=>(i.zero,i.size,i.bytes))=some (some (.agg #[.int .i64 0,.string ⟨#[]⟩,.int .i32 0,.int .i64 0]),4,40):=by kernel_rfl
def tkC (t:Tk):List Value:=[.int .i64 t.kind,.string t.text,.int .i32 t.n,.int .i64 t.pos]
def Kie (l:List Tk):List Value:=l.flatMap tkC
theorem Knw (l:List Tk) (k:Nat) (t:Tk) (h:l[k]?=some t) (i:Nat) (u:Value) (hu:(tkC t)[i]?=some u):(Kie l)[k * 4+i]?=some u:=by
 induction l generalizing k with
 | nil=>simp at h
 | cons x l ih=>
  rw [Kie,List.flatMap_cons,<-Kie]
  have hi:i<4:=by
   have:=(List.getElem?_eq_some_iff.1 hu).1;simpa [tkC] using this
  cases k with
  | zero=>
   simp at h;subst h;rw [List.getElem?_append_left (by simp [tkC];omega)];simpa using hu
  | succ k=>
   rw [List.getElem?_append_right (by simp [tkC];omega)];have ai:(tkC x).length=4:=rfl;rw [ai,show(k+1) * 4+i-4=k * 4+i from by omega];exact ih k (by simpa using h)
theorem Kns {w:World} {base:Nat} {e:TypeId} {l:List Tk} {A:Option Addr} {cap:Nat} (h:w.ownsRow base e 4 (.slice A l.length cap) l.length (Kie l)):Kg5 w.heap.size w l A cap:=by
 rcases Nat.eq_zero_or_pos l.length with h0|h0
 ·obtain⟨A',c',hv,h1,h2⟩:=Jv h;injection hv with e1 e2 e3;subst e3;exact⟨h1,h2,fun hl=>absurd hl (by omega)⟩
 ·obtain⟨g,c',hv,hg,am,h1,h2,hc⟩:=Kc h h0;injection hv with e1 e2 e3;subst e1 e3;refine⟨h1,h2,fun _=>⟨g,0,rfl,am,fun k t hk=>?_⟩⟩;have ha:=fun i u hu=>hc _ _ (Knw l k t hk i u hu);rw [Nat.zero_add];exact⟨ha 0 _ rfl,ha 1 _ rfl,ha 2 _ rfl,ha 3 _ rfl⟩
theorem Kjb (p:Int->Bool) {s:ByteArray} (h:0<s.size) (hp:p ((Utf8.decode s 0).1:Int)=true):1<=(Kc8 p s).size:=by
 have h1:1<=Zb p s (s.size+1) 0:=by
  rw [Zb,if_pos h,if_pos hp];have h2:=Jqv s 0
  rcases Nat.lt_or_ge (0+(Utf8.decode s 0).2) (s.size+1) with h3|h3
  ·have:=Khb p s s.size (0+(Utf8.decode s 0).2) (by omega);omega
  ·cases hs:s.size with
   | zero=>omega
   | succ f=>rw [hs] at h3;rw [Zb,if_neg (by omega)];omega
 unfold Kc8;rw [ByteArray.size_extract];omega
theorem Kls {s:ByteArray} (h0:0<s.size) (h:(Kdg s).2=0):1<=(Kdg s).1.text.size:=by
 have ascii:∀c:UInt8,s[0]=c->c.toNat<128->Utf8.decode s 0=(c.toNat,1):=fun c hc am=>by
  rw [decode_ascii s 0 h0 (by rw [hc];exact am),hc]
 unfold Kdg at h ⊢;rw [Kg2 h0] at h ⊢
 by_cases hl:Zh (s[0].toNat:Int)=true
 ·have h1:1<=(Kc8 Q5 s).size:=Kjb Q5 h0 (by
   have am:s[0].toNat<128:=by simp only [Zh,decide_eq_true_eq] at hl;omega
   rw [ascii _ rfl am];simp [Q5,hl])
  rw [if_pos hl]
  split
  ·exact h1
  ·split <;> exact h1
 ·rw [if_neg hl] at h ⊢
  by_cases hd:Jbz (s[0].toNat:Int)=true
  ·have h1:1<=(Kc8 Jbz s).size:=Kjb Jbz h0 (by
    have am:s[0].toNat<128:=by simp only [Jbz,decide_eq_true_eq] at hd;omega
    rw [ascii _ rfl am];exact hd)
   rw [if_pos hd]
   split <;> exact h1
  ·rw [if_neg hd] at h ⊢
   by_cases h2:2<=s.size/\Kfl (s.extract 0 2)=true
   ·rw [if_pos h2];show 1<=(s.extract 0 2).size;rw [ByteArray.size_extract];omega
   ·rw [if_neg h2] at h ⊢
    by_cases h3:1<=s.size/\Kfl (s.extract 0 1)=true
    ·rw [if_pos h3];show 1<=(s.extract 0 1).size;rw [ByteArray.size_extract];omega
    ·rw [if_neg h3] at h;simp at h
theorem Knr (s:ByteArray):(Kdg s).1.text.size<=s.size:=by
 have h1:=Kgd Q5 s;have h2:=Kgd Jbz s;unfold Kdg;generalize Kc8 Q5 s=a at h1 ⊢;generalize Kc8 Jbz s=b at h2 ⊢
 by_cases c1:Zh (Kgi s)=true
 ·rw [if_pos c1]
  split
  ·exact h1
  ·split <;> exact h1
 ·rw [if_neg c1]
  by_cases c2:Jbz (Kgi s)=true
  ·rw [if_pos c2]
   split <;> exact h2
  ·rw [if_neg c2]
   split
   ·show(s.extract 0 2).size<=s.size;rw [ByteArray.size_extract];omega
   ·split
    ·show(s.extract 0 1).size<=s.size;rw [ByteArray.size_extract];omega
    ·exact Nat.zero_le _
theorem Kjg:∀f (s:ByteArray),(Kgb f s).size<=s.size
 | 0,s=>Nat.le_refl _
 | f+1,s=>by
  rw [Kh8];have h1:=Kod s (Kc8 Kdh s).size
  split
  ·omega
  ·split
   ·have h2:=Kjg f (Kd6 (Kd6 s (Kc8 Kdh s).size) (Kc8 Kes (Kd6 s (Kc8 Kdh s).size)).size);have h3:=Kod (Kd6 s (Kc8 Kdh s).size) (Kc8 Kes (Kd6 s (Kc8 Kdh s).size)).size;omega
   ·omega
theorem Kku (s:ByteArray):(Kfi s).size<=s.size:=Kjg _ s
theorem Kmc (w:World) (c:Array Value) (t:TypeId) {g:Nat} (hg:g=w.heap.size) (j:Nat):(w.alloc (.cells c t)).cell? ⟨g,j,none⟩=c[j]?:=by subst hg;exact Kw w c t j
def Kll (W:World) (x:List Tk×Int×Int) (r:Ending) (W':World):Prop:=
 (∃Al cl,r = .returned (.tuple #[.slice Al x.1.length cl,.int .i64 x.2.1,.int .i64 x.2.2])/\Kg5 W'.heap.size W' x.1 Al cl)/\Below W.heap.size W W'
theorem Kjz (s:ByteArray) (W:World) (hs:s.size<=maxLen):Calls Tryz.prog 16 #[.string s] W (Kll W (Kdk s)):=by
 unfold maxLen at hs;unfold Kdk
 by_cases dP:4096<s.size
 ·rw [if_pos dP];have d1:decide (4096<(s.size:Int))=true:=by simp;omega
  go_enter Tryz.func16,Tryz.ntmps16
  go_wp2_with fail
  refine bodyPost_ret (v:= .tuple #[.slice none 0 0,.int .i64 3,.int .i64 0]) (by simp [results,Tryz.results16,go_sem, *]) rfl ⟨⟨none,0,rfl,Nat.le_refl _,by unfold maxLen;omega,fun h=>absurd h (by simp)⟩,Below.refl _ _⟩
 ·rw [if_neg dP];have d1:decide (4096<(s.size:Int))=false:=by simp;omega
  have pp:=fun w=>Kjs s w (by omega);have dS:=Kku s;generalize Kfi s=l0 at pp dS ⊢;obtain⟨R,hR⟩:∃R,R=Key s.size (s.size+1) l0 []:=⟨_,rfl⟩;rw [<-hR];have vi:=Lib.hid hR;clear hR
  go_enter Tryz.func16,Tryz.ntmps16
  go_wp2_with (go_at_call 35;go_loud (refine(pp _).mono ?_;rintro r w1 ⟨rfl,ac⟩))
  go_loopg [5,6] (s.size+1) (fun k o lf wr=>∃out left Al cl,o = .slice Al out.length cl/\lf = .string left/\left.size<k/\out.length+left.size<=s.size/\Key s.size k left out=R/\wr.ownsRow W.heap.size 103 4 (.slice Al out.length cl) out.length (Kie out)/\Below W.heap.size W wr)
  case atStart=>exact⟨[],l0,none,0,rfl,rfl,by omega,by simp;omega,vi.out.symm,World.ownsRow_nil _ _ _ _,ac⟩
  case round=>
   obtain⟨out,left,Al,cl,rfl,rfl,hk,hol,aa,ae,ab⟩:=hrel;obtain⟨k,rfl⟩:∃k,gk=k+1:=⟨gk-1,by omega⟩;rw [Key] at aa
   by_cases hz:left.size=0
   ·rw [if_pos hz] at aa;obtain rfl:left=⟨#[]⟩:=by ext1;apply Array.eq_empty_of_size_eq_zero;rw [ByteArray.size_data];exact hz
    have HR:=Lib.hid aa;clear aa hz
    go_wp2_with fail
    refine bodyPost_ret (v:= .tuple #[.slice Al out.length cl,.int .i64 0,.int .i64 0]) (by simp [results,Tryz.results16,go_sem, *]) rfl ?_;rw [<-HR.out];exact⟨⟨Al,cl,rfl,Kns ae⟩,ab⟩
   ·rw [if_neg hz] at aa;have nn:=Jfp (s:=left) (by omega);have qU:=fun w=>Kly left w (by omega) (by omega);have aP:=Kls (s:=left) (by omega);have htl:=Knr left;generalize Kdg left=N at qU aP htl aa;obtain⟨⟨tk,tx,tn,tp⟩,e⟩:=N;unfold tkV at qU;dsimp only at qU aP htl aa
    by_cases he:e=0
    ·subst he;rw [if_pos rfl] at aa;have h1:=aP rfl;have dj:=Kod left tx.size;have hpc:=fun w=>Kjs (Kd6 left tx.size) w (by omega);have hpl2:=Kku (Kd6 left tx.size);generalize Kfi (Kd6 left tx.size)=l2 at hpc hpl2 aa;unfold Kd6 at hpc;have hti:(tx.size:Int)<=(left.size:Int):=by omega
     have hpl3:l2.size<=left.size-tx.size:=by omega
     have HR:=Lib.hid aa;clear aa aP dj hpl2
     go_wp2_with (first
      | (go_at_call 36;go_loud (refine(qU _).mono ?_;rintro r w2 ⟨rfl,aq⟩;have hwl:=ab.size;have br:=aq.size;have hownT:=Js (o:= .cells #[.int .i64 tk,.string tx,.int .i32 tn,.int .i64 ((s.size:Int)-left.size)] 103) (Js (o:= .cells #[.int .i64 tk,.string tx,.int .i32 tn,.int .i64 ((s.size:Int)-left.size)] 103) (Jy ae aq))))
      | (at_builtin;go_loud (refine Z2 rfl (.tmp 32) (.tmp 34) 60 rfl W.heap.size 103 _ 4 40 Tryz.underlying60 Kn6 rfl (by omega) (.slice Al out.length cl) out.length (Kie out) (w2.heap.size+1) 1 1 (tkC ⟨tk,tx,tn,(s.size:Int)-left.size⟩) rfl hownT rfl rfl (fun j u hj=>by rw [Kmc _ _ _ (by simp)];simpa [tkC] using hj) (by simp [tkC,Value.oneCell']) (by omega) (by omega) (by simp <;> omega) ?_;intro v6 w6 fi ue yt;have q1:w6.cell? ⟨w2.heap.size,1,none⟩=some (.string tx):=Jr (ue.block w2.heap.size (by simp <;> omega) (fun he=>by have:=(ae.lt w2.heap.size he.symm).2;omega)) (by go_simp)))
      | (go_at_call 35;go_loud (refine(hpc _).mono ?_;rintro r w7 ⟨rfl,hb7⟩)))
     obtain⟨A6,c6,rfl,-,-⟩:=Jv fi
     go_roundg k
     case measure=>omega
     case rel=>
      refine⟨out ++ [⟨tk,tx,tn,(s.size:Int)-left.size⟩],l2,A6,c6,by simp,rfl,by omega,by simp;omega,HR.out,?_,?_⟩
      ·have:=Jy fi hb7;simpa [Kie] using this
      ·exact Jd (J2 (Jc (Jc (Jd ab aq) _) _) ue (fun b hb=>(ae.lt b hb).1) (by simp <;> omega)) hb7
    ·rw [if_neg he] at aa;have hei:(e != 0)=true:=by simpa using he
     have HR:=Lib.hid aa;clear aa aP
     go_wp2_with (go_at_call 36;go_loud (refine(qU _).mono ?_;rintro r w2 ⟨rfl,aq⟩))
     go_quiet (fail)
     go_wp2_with fail
     refine bodyPost_ret (v:= .tuple #[.slice none 0 0,.int .i64 e,.int .i64 ((s.size:Int)-left.size)]) (by simp [results,Tryz.results16,go_sem, *]) rfl ?_;rw [<-HR.out];exact⟨⟨none,0,rfl,Nat.le_refl _,by unfold maxLen;omega,fun h=>absurd h (by simp)⟩,by first|exact J8 (Jc (Jd ab aq) _) _|exact Jh (Jc (Jd ab aq) _)⟩
end Go.Proofs.YtdgjplldlfeolaaGreatDoor
namespace Go.Proofs.YtdgjplldlfeolaaGreatDoor
open Go.RowKit
theorem Kdd (a b:ByteArray):(a ++ b).toList=a.toList ++ b.toList:=by
 rw [ByteArray.toList_eq,ByteArray.toList_eq,ByteArray.toList_eq];simp
theorem Kc9 (l:List UInt8):(ByteArray.mk l.toArray).toList=l:=Kde l
def Kg6 (t:ByteArray) (q:List Tq):Prop:=∀r l,Sep r->LX r l->LX (t.toList ++ r) (q ++ l)
theorem Ke0 {x:Ex} (h:Kg6 x.showB x.toks):Kg6 x.partB x.toksP:=by
 intro r l hs hr;unfold Ex.partB Ex.toksP brk Kfg
 split
 ·exact h r l hs hr
 ·simp only [Kdd,Kc9,List.append_assoc,List.cons_append,List.nil_append];exact LX.alone (by decide) (by decide) (h _ _ Sep.shut (LX.alone (by decide) (by decide) hr))
theorem kwL {b:List UInt8} (h:Jdo (mkB b)=true) (h1:∃c t,b=c :: t/\Zh (c.toNat:Int)=true) (h2:(b.all fun c=>decide (c.toNat<128) && Q5 (c.toNat:Int))=true) {r:List UInt8} {l:List Tq} (hr:LX r l):LX (b ++ 32 :: r) (tW b :: l):=by
 refine LX.kw ⟨h1,fun c hc=>?_,.inl h⟩ h Sep.blank.stop hr.sp;have:=List.all_eq_true.1 h2 c hc;simp only [Bool.and_eq_true,decide_eq_true_eq] at this;exact this
theorem Kgh {b:List UInt8} (h:Jdo (mkB b)=true) (h1:∃c t,b=c :: t/\Zh (c.toNat:Int)=true) (h2:(b.all fun c=>decide (c.toNat<128) && Q5 (c.toNat:Int))=true) {r:List UInt8} {l:List Tq} (hs:Khr r) (hr:LX r l):LX (b ++ r) (tW b :: l):=by
 refine LX.kw ⟨h1,fun c hc=>?_,.inl h⟩ h hs hr;have:=List.all_eq_true.1 h2 c hc;simp only [Bool.and_eq_true,decide_eq_true_eq] at this;exact this
theorem Kd5 {l:List UInt8} (h:(l == [110,111,100,101] || l == [114,101,116,117,114,110,115] || l == [118,97,114] || l == [108,101,116] || l == [116,101,108] || l == [105,102] || l == [116,104,101,110] || l == [101,108,115,101] || l == [102,98,121] || l == [112,114,101] || l == [119,104,101,110] || l == [117,110,108,101,115,115] || l == [109,101,114,103,101] || l == [110,111,116] || l == [116,114,117,101] || l == [102,97,108,115,101] || l == [105,110,116] || l == [98,111,111,108])=true):Jdo (mkB l)=true:=by
 unfold Jdo;rw [Kde];exact h
theorem Kk7 {x:Ex} (h:Sh x):∃c t,x.partB.toList=c :: t/\c≠45/\c≠62:=by
 have lit:∀(b:List UInt8) (x:Ex),x.partB=⟨#[40]⟩ ++ x.showB ++ ⟨#[41]⟩->∃c t,x.partB.toList=c :: t/\c≠45/\c≠62:=by
  intro b x h;rw [h];simp only [Kdd,Kc9,List.cons_append,List.nil_append];exact⟨40,_,rfl,by decide,by decide⟩
 induction h with
 | @num n h0 h1=>
  obtain⟨c,t,he,hc⟩:=Kf9 10 n.natAbs [] (by omega) (by omega);have eF:=Kg0 10 n.natAbs [] (by simp);have jK:=eF c (by rw [he];simp);refine⟨c,t,?_,?_,?_⟩
  ·simp [Ex.partB,brk,Ex.kind,Ex.showB,Ye,Zn,ByteArray.toList_eq,Kgj h0,he]
  ·intro e;rw [e] at jK;revert jK;decide
  ·intro e;rw [e] at jK;revert jK;decide
 | @truth n hn=>
  rcases hn with rfl|rfl
  ·exact⟨102,[97,108,115,101],by simp [Ex.partB,brk,Ex.kind,Ex.showB,Ye,Kc9],by decide,by decide⟩
  ·exact⟨116,[114,117,101],by simp [Ex.partB,brk,Ex.kind,Ex.showB,Ye,Kc9],by decide,by decide⟩
 | @var s hs=>
  obtain⟨⟨c,t,he,hc⟩,_,_⟩:=(Kjd hs).1;refine⟨c,t,by simpa [Ex.partB,brk,Ex.kind,Ex.showB,Ye] using he,?_,?_⟩
  ·intro e;rw [e] at hc;revert hc;decide
  ·intro e;rw [e] at hc;revert hc;decide
 | @when k s a hk hs ha ih=>
  obtain⟨c,t,he,h1⟩:=ih
  rcases hk with rfl|rfl
  ·have:(Ex.mk 8 0 s [a]).partB=a.partB ++ ⟨#[32,119,104,101,110,32]⟩ ++ s:=by simp [Ex.partB,brk,Ex.kind,Ex.showB,Ye,Ex.showL]
   rw [this];simp only [Kdd,he,List.cons_append];exact⟨c,_,rfl,h1⟩
  ·have:(Ex.mk 9 0 s [a]).partB=a.partB ++ ⟨#[32,117,110,108,101,115,115,32]⟩ ++ s:=by simp [Ex.partB,brk,Ex.kind,Ex.showB,Ye,Ex.showL]
   rw [this];simp only [Kdd,he,List.cons_append];exact⟨c,_,rfl,h1⟩
 | _=>exact lit [] _ (by simp [Ex.partB,brk,Ex.kind])
theorem Kih {e:Ex} (h:Sh e):Kg6 e.showB e.toks:=by
 induction h with
 | @num n h0 h1=>
  intro r l hs hr;have e1:(Ex.mk 1 n e0 []).showB=Zn n:=by simp [Ex.showB,Ye]
  have e2:(Ex.mk 1 n e0 []).toks = [(2,Zn n,n)]:=by simp [Ex.toks,Kdj]
  rw [e1,e2,show(Zn n).toList=Jgk n from Kde _];exact LX.num h0 h1 hs.stop hr
 | @truth n hn=>
  intro r l hs hr
  rcases hn with rfl|rfl
  ·have e1:(Ex.mk 2 0 e0 []).showB=mkB [102,97,108,115,101]:=by simp [Ex.showB,Ye]
   have e2:(Ex.mk 2 0 e0 []).toks = [tW [102,97,108,115,101]]:=by simp [Ex.toks,Kdj]
   rw [e1,e2,Kde];exact Kgh (Kd5 (by decide)) ⟨_,_,rfl,by decide⟩ (by decide) hs.stop hr
  ·have e1:(Ex.mk 2 1 e0 []).showB=mkB [116,114,117,101]:=by simp [Ex.showB,Ye]
   have e2:(Ex.mk 2 1 e0 []).toks = [tW [116,114,117,101]]:=by simp [Ex.toks,Kdj]
   rw [e1,e2,Kde];exact Kgh (Kd5 (by decide)) ⟨_,_,rfl,by decide⟩ (by decide) hs.stop hr
 | @var s hn=>
  intro r l hs hr;have e1:(Ex.mk 3 0 s []).showB=s:=by simp [Ex.showB,Ye]
  have e2:(Ex.mk 3 0 s []).toks = [tN s]:=by simp [Ex.toks,Kdj]
  rw [e1,e2];exact LX.name hn hs.stop hr
 | @un n a hn ha ih=>
  intro r l hs hr;have ih:=Ke0 ih r l hs hr
  rcases hn with rfl|rfl
  ·have e1:(Ex.mk 4 1 e0 [a]).showB=mkB [45] ++ a.partB:=by simp [Ex.showB,Ye,Ex.showL,Ex.partB]
   have e2:(Ex.mk 4 1 e0 [a]).toks=tM [45] :: a.toksP:=by simp [Ex.toks,Kdj,Ex.toksL,Ex.toksP]
   rw [e1,e2,Kdd,Kde];obtain⟨c,t,he,h1,h2⟩:=Kk7 ha;refine LX.one (by decide) (fun d hd=>?_) ih;rw [he] at hd;simp at hd;subst hd;exact⟨by simp [Kep];exact h2,by simpa using h1⟩
  ·have e1:(Ex.mk 4 2 e0 [a]).showB=mkB [110,111,116,32] ++ a.partB:=by simp [Ex.showB,Ye,Ex.showL,Ex.partB]
   have e2:(Ex.mk 4 2 e0 [a]).toks=tW [110,111,116] :: a.toksP:=by simp [Ex.toks,Kdj,Ex.toksL,Ex.toksP]
   rw [e1,e2,Kdd,Kde];exact kwL (b:=[110,111,116]) (Kd5 (by decide)) ⟨_,_,rfl,by decide⟩ (by decide) ih
 | @bin n a b h1 h2 ha hb iha ihb=>
  intro r l hs hr;have e1:(Ex.mk 5 n e0 [a,b]).showB=a.partB ++ mkB [32] ++ Ja6 n ++ mkB [32] ++ b.partB:=by simp [Ex.showB,Ye,Ex.showL,Ex.partB]
  have e2:(Ex.mk 5 n e0 [a,b]).toks=a.toksP ++ (4,Ja6 n,0) :: b.toksP:=by simp [Ex.toks,Kdj,Ex.toksL,Ex.toksP]
  rw [e1,e2];simp only [Kdd,Kde,List.append_assoc,List.cons_append,List.nil_append];exact Ke0 iha _ _ Sep.blank (LX.sp (LX.mark h1 h2 (Ke0 ihb r l hs hr)))
 | @ite a b c ha hb hc iha ihb ihc=>
  intro r l hs hr;have e1:(Ex.mk 6 0 e0 [a,b,c]).showB=mkB [105,102,32] ++ a.showB ++ mkB [32,116,104,101,110,32] ++ b.showB ++ mkB [32,101,108,115,101,32] ++ c.showB:=by simp [Ex.showB,Ye,Ex.showL]
  have e2:(Ex.mk 6 0 e0 [a,b,c]).toks=tW [105,102] :: (a.toks ++ tW [116,104,101,110] :: (b.toks ++ tW [101,108,115,101] :: c.toks)):=by simp [Ex.toks,Kdj,Ex.toksL]
  rw [e1,e2];simp only [Kdd,Kde,List.append_assoc,List.cons_append,List.nil_append];exact kwL (b:=[105,102]) (Kd5 (by decide)) ⟨_,_,rfl,by decide⟩ (by decide) (iha _ _ Sep.blank (LX.sp (kwL (b:=[116,104,101,110]) (Kd5 (by decide)) ⟨_,_,rfl,by decide⟩ (by decide) (ihb _ _ Sep.blank (LX.sp (kwL (b:=[101,108,115,101]) (Kd5 (by decide)) ⟨_,_,rfl,by decide⟩ (by decide) (ihc r l hs hr)))))))
 | @arrow a b ha hb iha ihb=>
  intro r l hs hr;have e1:(Ex.mk 7 0 e0 [a,b]).showB=a.partB ++ mkB [32,45,62,32] ++ b.partB:=by simp [Ex.showB,Ye,Ex.showL,Ex.partB]
  have e2:(Ex.mk 7 0 e0 [a,b]).toks=a.toksP ++ tM [45,62] :: b.toksP:=by simp [Ex.toks,Kdj,Ex.toksL,Ex.toksP]
  rw [e1,e2];simp only [Kdd,Kde,List.append_assoc,List.cons_append,List.nil_append];exact Ke0 iha _ _ Sep.blank (LX.sp (LX.two (by decide) (LX.sp (Ke0 ihb r l hs hr))))
 | @when k s a hk hn ha ih=>
  intro r l hs hr
  rcases hk with rfl|rfl
  ·have e1:(Ex.mk 8 0 s [a]).showB=a.partB ++ mkB [32,119,104,101,110,32] ++ s:=by simp [Ex.showB,Ye,Ex.showL,Ex.partB]
   have e2:(Ex.mk 8 0 s [a]).toks=a.toksP ++ [tW [119,104,101,110],tN s]:=by simp [Ex.toks,Kdj,Ex.toksL,Ex.toksP]
   rw [e1,e2];simp only [Kdd,Kde,List.append_assoc,List.cons_append,List.nil_append];exact Ke0 ih _ _ Sep.blank (LX.sp (kwL (b:=[119,104,101,110]) (Kd5 (by decide)) ⟨_,_,rfl,by decide⟩ (by decide) (LX.name hn hs.stop hr)))
  ·have e1:(Ex.mk 9 0 s [a]).showB=a.partB ++ mkB [32,117,110,108,101,115,115,32] ++ s:=by simp [Ex.showB,Ye,Ex.showL,Ex.partB]
   have e2:(Ex.mk 9 0 s [a]).toks=a.toksP ++ [tW [117,110,108,101,115,115],tN s]:=by simp [Ex.toks,Kdj,Ex.toksL,Ex.toksP]
   rw [e1,e2];simp only [Kdd,Kde,List.append_assoc,List.cons_append,List.nil_append];exact Ke0 ih _ _ Sep.blank (LX.sp (kwL (b:=[117,110,108,101,115,115]) (Kd5 (by decide)) ⟨_,_,rfl,by decide⟩ (by decide) (LX.name hn hs.stop hr)))
 | @merge s a b hn ha hb iha ihb=>
  intro r l hs hr;have e1:(Ex.mk 10 0 s [a,b]).showB=mkB [109,101,114,103,101,32] ++ s ++ mkB [32] ++ a.partB ++ mkB [32] ++ b.partB:=by simp [Ex.showB,Ye,Ex.showL,Ex.partB]
  have e2:(Ex.mk 10 0 s [a,b]).toks=tW [109,101,114,103,101] :: tN s :: (a.toksP ++ b.toksP):=by simp [Ex.toks,Kdj,Ex.toksL,Ex.toksP]
  rw [e1,e2];simp only [Kdd,Kde,List.append_assoc,List.cons_append,List.nil_append];exact kwL (b:=[109,101,114,103,101]) (Kd5 (by decide)) ⟨_,_,rfl,by decide⟩ (by decide) (LX.name hn Sep.blank.stop (LX.sp (Ke0 iha _ _ Sep.blank (LX.sp (Ke0 ihb r l hs hr)))))
def Kfs (v:Va):List Tq:=if v.ck=1 then [tW [119,104,101,110],tN v.cn] else if v.ck=2 then [tW [117,110,108,101,115,115],tN v.cn] else []
def Kek (v:Va):List Tq:=tN v.name :: tM [58] :: (if v.type=2 then tW [98,111,111,108] else tW [105,110,116]) :: Kfs v
def Kft:List Va->List Tq
 | []=>[]
 | v :: l=>tM [59] :: (Kek v ++ Kft l)
def Kev:List Va->List Tq
 | []=>[tM [40],tM [41]]
 | v :: l=>tM [40] :: (Kek v ++ (Kft l ++ [tM [41]]))
def Keb:List Va->List Tq
 | []=>[]
 | v :: l=>Kek v ++ tM [59] :: Keb l
def Kgc (q:Qe):List Tq:=if q.delay=1 then q.first.toks ++ [tW [102,98,121]] else if q.delay=2 then [tW [112,114,101]] else []
def eqT (q:Qe):List Tq:=tN q.name :: tM [61] :: (Kgc q ++ (q.e.toks ++ [tM [59]]))
def Kfv:List Qe->List Tq
 | []=>[]
 | q :: l=>eqT q ++ Kfv l
def Kgz (p:Pr):List Tq:=tW [110,111,100,101] :: tN p.name :: (Kev p.ins ++ tW [114,101,116,117,114,110,115] :: (Kev p.outs ++ tM [59] :: ((if 0<p.locals.length then tW [118,97,114] :: Keb p.locals else []) ++ tW [108,101,116] :: (Kfv p.eqs ++ [tW [116,101,108]]))))
theorem LX.equ {r:List UInt8} {l:List Tq} (hr:LX r l):LX (61 :: 32 :: r) (tM [61] :: l):=LX.one (by decide) (fun d hd=>by
 simp at hd;subst hd;exact⟨by decide,by simp⟩) hr.sp
theorem Khj {v:Va} {own:Bool} (h:Ke v own=true):Kg6 (Jb9 v) (Kek v):=by
 unfold Ke at h;simp only [Bool.and_eq_true] at h;obtain⟨⟨hn,_⟩,hc⟩:=h
 have typ:∀(r:List UInt8) (l:List Tq),Khr r->LX r l->LX ((if v.type=2 then v.name ++ (⟨#[32,58,32,98,111,111,108]⟩:ByteArray) else v.name ++ ⟨#[32,58,32,105,110,116]⟩).toList ++ r) (tN v.name :: tM [58] :: (if v.type=2 then tW [98,111,111,108] else tW [105,110,116]) :: l):=by
  intro r l hs hr
  by_cases h2:v.type=2
  ·simp only [if_pos h2,Kdd,Kc9,List.append_assoc];exact LX.name hn Sep.blank.stop (LX.sp (LX.alone (c:=58) (by decide) (by decide) (LX.sp (Kgh (b:=[98,111,111,108]) (Kd5 (by decide)) ⟨_,_,rfl,by decide⟩ (by decide) hs hr))))
  ·simp only [if_neg h2,Kdd,Kc9,List.append_assoc];exact LX.name hn Sep.blank.stop (LX.sp (LX.alone (c:=58) (by decide) (by decide) (LX.sp (Kgh (b:=[105,110,116]) (Kd5 (by decide)) ⟨_,_,rfl,by decide⟩ (by decide) hs hr))))
 intro r l hs hr;unfold Jb9 Kek Kfs
 by_cases h0:v.ck=0
 ·have n1:¬v.ck=1:=by omega
  have n2:¬v.ck=2:=by omega
  simp only [if_neg n1,if_neg n2];exact typ r l hs.stop hr
 ·rw [if_neg h0] at hc
  by_cases eG:v.ck=1\/v.ck=2
  ·rw [if_pos eG] at hc;simp only [Bool.and_eq_true] at hc;have qJ:=hc.2
   rcases eG with h1|h1
   ·simp only [if_pos h1];rw [Kdd,Kdd,Kc9 [32,119,104,101,110,32]];simp only [List.append_assoc,List.cons_append,List.nil_append];exact typ _ _ Sep.blank.stop (LX.sp (kwL (b:=[119,104,101,110]) (Kd5 (by decide)) ⟨_,_,rfl,by decide⟩ (by decide) (LX.name qJ hs.stop hr)))
   ·have n1:¬v.ck=1:=by omega
    simp only [if_neg n1,if_pos h1];rw [Kdd,Kdd,Kc9 [32,117,110,108,101,115,115,32]];simp only [List.append_assoc,List.cons_append,List.nil_append];exact typ _ _ Sep.blank.stop (LX.sp (kwL (b:=[117,110,108,101,115,115]) (Kd5 (by decide)) ⟨_,_,rfl,by decide⟩ (by decide) (LX.name qJ hs.stop hr)))
  ·rw [if_neg eG] at hc;simp at hc
theorem Ki2:∀(l:List Va) (k:Nat) (s:ByteArray) (q:List Tq),0<k->(∀v∈l,Ke v false=true)->Kg6 s q->Kg6 (Yr k s l) (q ++ Kft l)
 | [],k,s,q,_,_,hq=>by simpa [Yr,Kft] using hq
 | v :: l,k,s,q,hk,h,hq=>by
  rw [Yr,if_pos hk]
  have hv:Kg6 (s ++ ⟨#[59,32]⟩ ++ Jb9 v) (q ++ tM [59] :: Kek v):=by
   intro r m hs hr;simp only [Kdd,Kc9,List.append_assoc,List.cons_append,List.nil_append];exact hq _ _ Sep.semi (LX.alone (by decide) (by decide) (LX.sp (Khj (h v (by simp)) r m hs hr)))
  have:=Ki2 l (k+1) _ _ (by omega) (fun x hx=>h x (by simp [hx])) hv;simpa [Kft,List.append_assoc] using this
theorem Kiq {l:List Va} (h:∀v∈l,Ke v false=true) {r:List UInt8} {m:List Tq} (hr:LX r m):LX ((Y9 l).toList ++ r) (Kev l ++ m):=by
 unfold Y9
 cases l with
 | nil=>
  rw [Yr];simp only [Kdd,Kc9,List.append_assoc,List.cons_append,List.nil_append,Kev];exact LX.alone (by decide) (by decide) (LX.alone (by decide) (by decide) hr)
 | cons v l=>
  rw [Yr,if_neg (by omega)]
  have hv:Kg6 (⟨#[40]⟩ ++ Jb9 v) (tM [40] :: Kek v):=by
   intro r m hs hr;simp only [Kdd,Kc9,List.append_assoc,List.cons_append,List.nil_append];exact LX.alone (by decide) (by decide) (Khj (h v (by simp)) r m hs hr)
  have:=Ki2 l 1 _ _ (by omega) (fun x hx=>h x (by simp [hx])) hv;have:=this (41 :: r) _ Sep.shut (LX.alone (by decide) (by decide) hr);simpa [Kdd,Kc9,Kev,List.append_assoc] using this
def Kf8 (t:ByteArray) (q:List Tq):Prop:=∀r l,LX r l->LX (t.toList ++ r) (q ++ l)
theorem Kgt:∀(l:List Va) (s:ByteArray) (q:List Tq),(∀v∈l,Ke v true=true)->Kf8 s q->Kf8 (Xr s l) (q ++ Keb l)
 | [],s,q,_,hq=>by simpa [Xr,Keb] using hq
 | v :: l,s,q,h,hq=>by
  rw [Xr]
  have hv:Kf8 (s ++ (⟨#[32,32]⟩ ++ Jb9 v ++ ⟨#[59,10]⟩)) (q ++ (Kek v ++ [tM [59]])):=by
   intro r m hr;simp only [Kdd,Kc9,List.append_assoc,List.cons_append,List.nil_append];exact hq _ _ (LX.sp (LX.sp (Khj (h v (by simp)) _ _ Sep.semi (LX.alone (by decide) (by decide) hr.nl))))
  have:=Kgt l _ _ (fun x hx=>h x (by simp [hx])) hv;simpa [Keb,List.append_assoc] using this
theorem Kgm {e:Ex} (h:e.literal=true):Sh e/\((∃n,0<=n/\n<=2147483647/\e = .mk 1 n e0 [])\/(∃n,(n=0\/n=1)/\e = .mk 2 n e0 [])\/(∃n,0<=n/\n<=2147483647/\e = .mk 4 1 e0 [.mk 1 n e0 []])):=by
 unfold Ex.literal at h
 split at h
 ·rename_i hr;have hs:=Kjk e (Ex.right_zero.1 hr).2.2;refine⟨hs,?_⟩
  cases hs with
  | num h0 h1=>exact .inl ⟨_,h0,h1,rfl⟩
  | truth hn=>exact .inr (.inl ⟨_,hn,rfl⟩)
  | @un n a hn ha=>
   simp only [Ex.kind,Ex.n,Ex.sub,true_and] at h
   split at h
   ·rename_i h1;subst h1
    cases ha with
    | num h0 h1=>exact .inr (.inr ⟨_,h0,h1,rfl⟩)
    | @when k s a hk _ _=>rcases hk with rfl|rfl <;> simp [Ex.kind] at h
    | _=>simp [Ex.kind] at h
   ·simp at h
  | @when k s a hk _ _=>rcases hk with rfl|rfl <;> simp [Ex.kind] at h
  | _=>simp [Ex.kind] at h
 ·simp at h
theorem Kjy {q:Qe} (h:eqB q=true):Kz q.name=true/\Sh q.e/\q.e.right=0/\(q.delay=1/\q.first.literal=true\/(q.delay=0\/q.delay=2)/\q.first.same Ex.zero=true):=by
 simp only [eqB,Bool.and_eq_true] at h;obtain⟨⟨h1,h2⟩,h3⟩:=h;have h2:q.e.right=0:=by simpa using h2
 refine⟨h1,Kjk _ (Ex.right_zero.1 h2).2.2,h2,?_⟩
 split at h3
 ·rename_i hd;exact .inl ⟨hd,h3⟩
 ·split at h3
  ·rename_i hd;exact .inr ⟨hd,h3⟩
  ·simp at h3
theorem Kna {q:Qe} (h:eqB q=true) {s:ByteArray} {m:List Tq} (hs:Kf8 s m):Kf8 (Jhz s q) (m ++ eqT q):=by
 obtain⟨hn,he,_,hd⟩:=Kjy h;intro r l hr
 have tail:LX ((q.e.showB ++ ⟨#[59,10]⟩).toList ++ r) (q.e.toks ++ ([tM [59]] ++ l)):=by
  simp only [Kdd,Kc9,List.append_assoc,List.cons_append,List.nil_append];exact Kih he _ _ Sep.semi (LX.alone (by decide) (by decide) hr.nl)
 have hd':∀(t:List UInt8) (l:List Tq),LX t l->LX ((s ++ (⟨#[32,32]⟩ ++ q.name ++ ⟨#[32,61,32]⟩)).toList ++ t) (m ++ (tN q.name :: tM [61] :: l)):=by
  intro t l ht;simp only [Kdd,Kc9,List.append_assoc,List.cons_append,List.nil_append];exact hs _ _ (LX.sp (LX.sp (LX.name hn Sep.blank.stop (LX.sp (LX.equ ht)))))
 unfold Jhz eqT Kgc;rw [Kdd,List.append_assoc,List.append_assoc]
 rcases hd with ⟨hd,hl⟩|⟨hd|hd,_⟩
 ·rw [if_pos hd,if_pos hd,Kdd,List.append_assoc];have hf:=(Kih (Kgm hl).1) _ _ Sep.blank (LX.sp (kwL (b:=[102,98,121]) (Kd5 (by decide)) ⟨_,_,rfl,by decide⟩ (by decide) tail));have:=hd' _ _ hf;simpa [Kdd,Kc9,List.append_assoc] using this
 ·rw [if_neg (by omega),if_neg (by omega),if_neg (by omega),if_neg (by omega)];have:=hd' _ _ tail;simpa [Kdd,Kc9,List.append_assoc] using this
 ·rw [if_neg (by omega),if_pos hd,if_neg (by omega),if_pos hd,Kdd,List.append_assoc];have:=hd' _ _ (kwL (b:=[112,114,101]) (Kd5 (by decide)) ⟨_,_,rfl,by decide⟩ (by decide) tail);simpa [Kdd,Kc9,List.append_assoc] using this
theorem Ki3:∀(l:List Qe) (s:ByteArray) (q:List Tq),(∀v∈l,eqB v=true)->Kf8 s q->Kf8 (Zs s l) (q ++ Kfv l)
 | [],s,q,_,hq=>by simpa [Zs,Kfv] using hq
 | v :: l,s,q,h,hq=>by
  rw [Zs];have:=Ki3 l _ _ (fun x hx=>h x (by simp [hx])) (Kna (h v (by simp)) hq);simpa [Kfv,List.append_assoc] using this
theorem Ki6 {p:Pr} (h:Qw p=true):Kz p.name=true/\(∀v∈p.ins,Ke v false=true)/\(∀v∈p.outs,Ke v false=true)/\(∀v∈p.locals,Ke v true=true)/\∀q∈p.eqs,eqB q=true:=by
 simp only [Qw,Bool.and_eq_true,List.all_eq_true] at h;exact⟨h.1.1.1.1,h.1.1.1.2,h.1.1.2,h.1.2,h.2⟩
theorem Kkg {p:Pr} (h:Qw p=true):LX (Jal p).toList (Kgz p):=by
 obtain⟨hn,hi,ho,hl,hq⟩:=Ki6 h
 have h1:Kf8 (Ym p) (tW [110,111,100,101] :: tN p.name :: (Kev p.ins ++ tW [114,101,116,117,114,110,115] :: (Kev p.outs ++ [tM [59]]))):=by
  intro r l hr;unfold Ym;simp only [Kdd,Kc9,List.append_assoc,List.cons_append,List.nil_append];exact kwL (b:=[110,111,100,101]) (Kd5 (by decide)) ⟨_,_,rfl,by decide⟩ (by decide) (LX.name hn Sep.blank.stop (LX.sp (Kiq hi (LX.sp (kwL (b:=[114,101,116,117,114,110,115]) (Kd5 (by decide)) ⟨_,_,rfl,by decide⟩ (by decide) (Kiq ho (LX.alone (by decide) (by decide) hr.nl)))))))
 have h2:Kf8 (Xr (if 0<p.locals.length then Ym p ++ ⟨#[118,97,114,10]⟩ else Ym p) p.locals) (tW [110,111,100,101] :: tN p.name :: (Kev p.ins ++ tW [114,101,116,117,114,110,115] :: (Kev p.outs ++ tM [59] :: (if 0<p.locals.length then tW [118,97,114] :: Keb p.locals else [])))):=by
  by_cases hp:0<p.locals.length
  ·rw [if_pos hp,if_pos hp]
   have h3:Kf8 (Ym p ++ ⟨#[118,97,114,10]⟩) (tW [110,111,100,101] :: tN p.name :: (Kev p.ins ++ tW [114,101,116,117,114,110,115] :: (Kev p.outs ++ [tM [59],tW [118,97,114]]))):=by
    intro r l hr;have:=h1 (118 :: 97 :: 114 :: 10 :: r) _ (Kgh (b:=[118,97,114]) (Kd5 (by decide)) ⟨_,_,rfl,by decide⟩ (by decide) Sep.line.stop hr.nl);simpa [Kdd,Kc9,List.append_assoc] using this
   have:=Kgt p.locals _ _ hl h3;simpa [List.append_assoc] using this
  ·rw [if_neg hp,if_neg hp];have:=Kgt p.locals _ _ hl h1;have hnil:p.locals = []:=List.eq_nil_of_length_eq_zero (by omega);simpa [hnil,Keb] using this
 have h3:Kf8 (Xr (if 0<p.locals.length then Ym p ++ ⟨#[118,97,114,10]⟩ else Ym p) p.locals ++ ⟨#[108,101,116,10]⟩) (tW [110,111,100,101] :: tN p.name :: (Kev p.ins ++ tW [114,101,116,117,114,110,115] :: (Kev p.outs ++ tM [59] :: ((if 0<p.locals.length then tW [118,97,114] :: Keb p.locals else []) ++ [tW [108,101,116]])))):=by
  intro r l hr;have:=h2 (108 :: 101 :: 116 :: 10 :: r) _ (Kgh (b:=[108,101,116]) (Kd5 (by decide)) ⟨_,_,rfl,by decide⟩ (by decide) Sep.line.stop hr.nl);simpa [Kdd,Kc9,List.append_assoc] using this
 have h4:=Ki3 p.eqs _ _ hq h3;have:=h4 (116 :: 101 :: 108 :: 10 :: []) _ (Kgh (b:=[116,101,108]) (Kd5 (by decide)) ⟨_,_,rfl,by decide⟩ (by decide) Sep.line.stop LX.nil.nl);unfold Jal Kgz;simpa [Kdd,Kc9,List.append_assoc] using this
def At (ts:List Tk) (pos:Nat) (l:List Tq):Prop:=(ts.drop pos).map Tk.q=l
theorem At.lt {ts:List Tk} {pos:Nat} {q:Tq} {l:List Tq} (h:At ts pos (q :: l)):pos<ts.length:=by
 have:=congrArg List.length h;simp at this;omega
theorem At.get {ts:List Tk} {pos:Nat} {q:Tq} {l:List Tq} (h:At ts pos (q :: l)):∃t,ts[pos]?=some t/\t.q=q:=by
 have am:=h.lt;refine⟨ts[pos],List.getElem?_eq_getElem am,?_⟩;unfold At at h;rw [List.drop_eq_getElem_cons am,List.map_cons] at h;exact(List.cons.inj h).1
theorem At.next {ts:List Tk} {pos:Nat} {q:Tq} {l:List Tq} (h:At ts pos (q :: l)):At ts (pos+1) l:=by
 have am:=h.lt;unfold At at h ⊢;rw [List.drop_eq_getElem_cons am,List.map_cons] at h;exact(List.cons.inj h).2
theorem At.skip {ts:List Tk} {pos:Nat} {a l:List Tq} (h:At ts pos (a ++ l)):At ts (pos+a.length) l:=by
 induction a generalizing pos with
 | nil=>exact h
 | cons q a ih=>
  have:=ih (pos:=pos+1) (At.next h);rw [List.length_cons,show pos+(a.length+1)=pos+1+a.length by omega];exact this
theorem At.none {ts:List Tk} {pos:Nat} (h:At ts pos []):ts[pos]?=none:=by
 have:=congrArg List.length h;simp at this;exact List.getElem?_eq_none (by omega)
def Kd9 (l:List Tq) (s:ByteArray):Bool:=match l with
 | []=>false
 | q :: _=>(q.1 == 3 || q.1 == 4) && q.2.1.toList == s.toList
theorem Kef {ts:List Tk} {pos:Nat} {l:List Tq} (h:At ts pos l) (s:ByteArray):Kc5 ts ⟨pos,false⟩ s=Kd9 l s:=by
 unfold Kc5 Kc7;rw [if_neg (by simp)]
 cases l with
 | nil=>rw [h.none];rfl
 | cons q l=>
  obtain⟨t,ht,rfl⟩:=h.get;rw [ht];rfl
theorem Kdo (a b:List UInt8) (l:List Tq):Kd9 (tM a :: l) (mkB b)=(a == b):=by
 simp [Kd9,Kde]
theorem Kdi (a b:List UInt8) (l:List Tq):Kd9 (tW a :: l) (mkB b)=(a == b):=by
 simp [Kd9,Kde]
theorem Kgg (s:ByteArray) (l:List Tq) (b:ByteArray):Kd9 (tN s :: l) b=false:=by simp [Kd9]
theorem Kg7 (t:ByteArray) (n:Int) (l:List Tq) (b:ByteArray):Kd9 ((2,t,n) :: l) b=false:=by simp [Kd9]
theorem Kdw {ts:List Tk} {pos:Nat} {l:List Tq} (h:At ts pos l) {s:ByteArray} (hs:Kd9 l s=true):Kc6 ts ⟨pos,false⟩ s=⟨pos+1,false⟩:=by
 unfold Kc6;rw [if_pos (by rw [Kef h,hs])]
theorem Kea {ts:List Tk} {pos:Nat} {l:List Tq} (h:At ts pos l) {s:ByteArray} (hs:Kd9 l s=true):Kda ts ⟨pos,false⟩ s=⟨pos+1,false⟩:=by
 unfold Kda;rw [if_pos (by rw [Kef h,hs])]
theorem Kf3 {ts:List Tk} {pos:Nat} {s:ByteArray} {l:List Tq} (h:At ts pos (tN s :: l)):Kdn ts ⟨pos,false⟩=(s,⟨pos+1,false⟩):=by
 obtain⟨t,ht,hq⟩:=h.get;unfold Kdn Kdy Kc7;rw [if_neg (by simp),ht];have h1:t.kind=1:=congrArg (·.1) hq;have h2:t.text=s:=congrArg (·.2.1) hq;simp only [h1,if_true,h2]
theorem Kj2 {ts:List Tk} {pos:Nat} {s:ByteArray} {n:Int} {l:List Tq} (h:At ts pos ((2,s,n) :: l)):((Kc7 ts ⟨pos,false⟩).getD tkZ).kind=2/\((Kc7 ts ⟨pos,false⟩).getD tkZ).n=n/\Kdy ts ⟨pos,false⟩ 2=((Kc7 ts ⟨pos,false⟩).getD tkZ,⟨pos+1,false⟩):=by
 obtain⟨t,ht,hq⟩:=h.get;have h1:t.kind=2:=congrArg (·.1) hq;have h2:t.n=n:=congrArg (·.2.2) hq;unfold Kdy Kc7;rw [if_neg (by simp),ht];simp [h1,h2]
theorem Kf1 {ts:List Tk} {pos:Nat} {q:Tq} {l:List Tq} (h:At ts pos (q :: l)) (hq:q.1≠2):¬((Kc7 ts ⟨pos,false⟩).getD tkZ).kind=2:=by
 obtain⟨t,ht,rfl⟩:=h.get;unfold Kc7;rw [if_neg (by simp),ht];exact hq
theorem Kif {ts:List Tk} {pos:Nat} {l:List Tq} (h:At ts pos l):∀ms:List ByteArray,(∀m∈ms,Kd9 l m=false)->Kd7 ts ⟨pos,false⟩ ms=(⟨#[]⟩,⟨pos,false⟩)
 | [],_=>rfl
 | m :: ms,hm=>by
  rw [Kd7,if_neg (by rw [Kef h,hm m (by simp)];simp)];exact Kif h ms fun x hx=>hm x (by simp [hx])
def Khp (l:List Tq):Prop:=Kd9 l ⟨#[119,104,101,110]⟩=false/\Kd9 l ⟨#[117,110,108,101,115,115]⟩=false
def Kgo (k:Nat) (l:List Tq):Prop:=∀j,k<=j->j<6->∀m∈Kdx j,Kd9 l m=false
def Kir (l:List Tq):Prop:=Khp l/\Kgo 0 l/\Kd9 l ⟨#[45,62]⟩=false
theorem Kgo.up {k k':Nat} {l:List Tq} (h:Kgo k l) (hk:k<=k'):Kgo k' l:=fun j hj=>h j (by omega)
section
variable {ts:List Tk}
def Got (ts:List Tk) (nt:NT) (pos:Nat) (e:Ex) (pos':Nat):Prop:=∀f,12 * (ts.length-pos)+nt.rank<f->K3 ts f nt ⟨pos,false⟩=(e,⟨pos',false⟩)
theorem Kjp {pos pos':Nat} {e:Ex} {l:List Tq} (ha:At ts pos' l):∀(d k:Nat),k+d<=6->Kgo k l->Got ts (.level (k+d)) pos e pos'->Got ts (.level k) pos e pos'
 | 0,k,_,_,h=>h
 | d+1,k,hk,hs,h=>by
  have ih:=Kjp ha d (k+1) (by omega) (hs.up (by omega)) (by rw [show k+1+d=k+(d+1) by omega];exact h);intro f hf;simp only [NT.rank] at hf;obtain⟨f,rfl⟩:∃g,f=g+1:=⟨f-1,by omega⟩;obtain⟨g,rfl⟩:∃g,f=g+1:=⟨f-1,by omega⟩;rw [K3,if_neg (by omega),ih (g+1) (by simp only [NT.rank];omega)];rw [K3,Kif ha _ (hs k (Nat.le_refl _) (by omega)),if_pos (by rfl)]
theorem six {pos pos':Nat} {e:Ex} (h:Got ts .unary pos e pos'):Got ts (.level 6) pos e pos':=by
 intro f hf;simp only [NT.rank] at hf;obtain⟨f,rfl⟩:∃g,f=g+1:=⟨f-1,by omega⟩;rw [K3,if_pos rfl];exact h f (by simp only [NT.rank];omega)
theorem Kj5 {pos pos':Nat} {e:Ex} {l:List Tq} (ha:At ts pos' l) (hs:Kd9 l ⟨#[45,62]⟩=false) (h:Got ts (.level 0) pos e pos'):Got ts .expr pos e pos':=by
 intro f hf;simp only [NT.rank] at hf;obtain⟨f,rfl⟩:∃g,f=g+1:=⟨f-1,by omega⟩;rw [K3,h f (by simp only [NT.rank];omega),if_neg (by rw [Kef ha,hs];simp)]
theorem Kgy {pos pos':Nat} {e:Ex} {l:List Tq} (ha:At ts pos' l) (hs:Kir l) (h:Got ts .unary pos e pos'):Got ts .expr pos e pos':=
 Kj5 ha hs.2.2 (Kjp ha 6 0 (by omega) hs.2.1 (six h))
theorem Khx {pos pos':Nat} {e:Ex} {l:List Tq} (ha:At ts pos l) (h1:Kd9 l ⟨#[45]⟩=false) (h2:Kd9 l ⟨#[110,111,116]⟩=false) (h:Got ts .factor pos e pos'):Got ts .unary pos e pos':=by
 intro f hf;simp only [NT.rank] at hf;obtain⟨f,rfl⟩:∃g,f=g+1:=⟨f-1,by omega⟩;rw [K3,if_neg (by rw [Kef ha,h1];simp),if_neg (by rw [Kef ha,h2];simp)];exact h f (by simp only [NT.rank];omega)
def Kd4 (ts:List Tk) (x:Ex):Prop:=∀pos l f,At ts pos (x.toksP ++ l)->12 * (ts.length-pos)+1<f->∃g,K3 ts f .factor ⟨pos,false⟩=K3 ts g (.floop x) ⟨pos+x.toksP.length,false⟩/\12 * (ts.length-(pos+x.toksP.length))<g
def Kff (ts:List Tk) (x:Ex):Prop:=∀pos l,At ts pos (x.toks ++ l)->Kir l->Got ts .expr pos x (pos+x.toks.length)
theorem Khy {pos:Nat} {x:Ex} {l:List Tq} (ha:At ts pos l) (hs:Khp l) {g:Nat} (hg:0<g):K3 ts g (.floop x) ⟨pos,false⟩=(x,⟨pos,false⟩):=by
 obtain⟨g,rfl⟩:∃h,g=h+1:=⟨g-1,by omega⟩;rw [K3,if_neg (by rw [Kef ha,hs.1];simp),if_neg (by rw [Kef ha,hs.2];simp)]
theorem Kd4.got {x:Ex} (h:Kd4 ts x) {pos:Nat} {l:List Tq} (ha:At ts pos (x.toksP ++ l)) (hs:Khp l):Got ts .factor pos x (pos+x.toksP.length):=by
 intro f hf;obtain⟨g,h1,h2⟩:=h pos l f ha hf;rw [h1,Khy ha.skip hs (by omega)]
theorem Kf5 {pos pos':Nat} {x:Ex} {q:Tq} {l:List Tq} (ha:At ts pos (q :: l)) (hp:pos<pos') (h:Got ts .atom pos x pos'):∀f,12 * (ts.length-pos)+1<f->∃g,K3 ts f .factor ⟨pos,false⟩=K3 ts g (.floop x) ⟨pos',false⟩/\12 * (ts.length-pos')<g:=by
 intro f hf;have:=ha.lt;obtain⟨f,rfl⟩:∃g,f=g+1:=⟨f-1,by omega⟩;exact⟨f,by rw [K3,h f (by simp only [NT.rank];omega)],by omega⟩
theorem Kkr {x:Ex} (h:Sh x):∃q t,x.toksP=q :: t/\((∃s n,q=(2,s,n))\/q=tW [102,97,108,115,101]\/q=tW [116,114,117,101]\/(∃s,q=tN s)\/q=tM [40]):=by
 induction h with
 | @num n h0 h1=>exact⟨(2,Zn n,n),[],by simp [Ex.toksP,Kfg,Ex.kind,Ex.toks,Kdj],.inl ⟨_,_,rfl⟩⟩
 | @truth n hn=>
  rcases hn with rfl|rfl
  ·exact⟨tW [102,97,108,115,101],[],by simp [Ex.toksP,Kfg,Ex.kind,Ex.toks,Kdj],.inr (.inl rfl)⟩
  ·exact⟨tW [116,114,117,101],[],by simp [Ex.toksP,Kfg,Ex.kind,Ex.toks,Kdj],.inr (.inr (.inl rfl))⟩
 | @var s hs=>exact⟨tN s,[],by simp [Ex.toksP,Kfg,Ex.kind,Ex.toks,Kdj],.inr (.inr (.inr (.inl ⟨_,rfl⟩)))⟩
 | @when k s a hk hs ha ih=>
  obtain⟨q,t,he,h1⟩:=ih
  rcases hk with rfl|rfl
  ·exact⟨q,t ++ [tW [119,104,101,110],tN s],by
    have:(Ex.mk 8 0 s [a]).toksP=a.toksP ++ [tW [119,104,101,110],tN s]:=by simp [Ex.toksP,Kfg,Ex.kind,Ex.toks,Kdj,Ex.toksL]
    rw [this,he];rfl,h1⟩
  ·exact⟨q,t ++ [tW [117,110,108,101,115,115],tN s],by
    have:(Ex.mk 9 0 s [a]).toksP=a.toksP ++ [tW [117,110,108,101,115,115],tN s]:=by simp [Ex.toksP,Kfg,Ex.kind,Ex.toks,Kdj,Ex.toksL]
    rw [this,he];rfl,h1⟩
 | _=>exact⟨tM [40],_,by simp [Ex.toksP,Kfg,Ex.kind];rfl,.inr (.inr (.inr (.inr rfl)))⟩
theorem Kg3 {x:Ex} (h:Sh x) (r:List Tq) {b:List UInt8} (h1:b≠[102,97,108,115,101]) (h2:b≠[116,114,117,101]) (h3:b≠[40]):Kd9 (x.toksP ++ r) (mkB b)=false:=by
 obtain⟨q,t,he,hq⟩:=Kkr h;rw [he,List.cons_append]
 rcases hq with ⟨s,n,rfl⟩|rfl|rfl|⟨s,rfl⟩|rfl
 ·exact Kg7 _ _ _ _
 ·rw [Kdi];simpa using fun e=>h1 e.symm
 ·rw [Kdi];simpa using fun e=>h2 e.symm
 ·exact Kgg _ _ _
 ·rw [Kdo];simpa using fun e=>h3 e.symm
theorem Kd4.unary {x:Ex} (hx:Sh x) (h:Kd4 ts x) {pos:Nat} {l:List Tq} (ha:At ts pos (x.toksP ++ l)) (hs:Khp l):Got ts .unary pos x (pos+x.toksP.length):=
 Khx ha (Kg3 hx l (by simp) (by simp) (by simp)) (Kg3 hx l (by simp) (by simp) (by simp)) (h.got ha hs)
theorem Kd4.level {x:Ex} (hx:Sh x) (h:Kd4 ts x) {pos:Nat} {l:List Tq} (ha:At ts pos (x.toksP ++ l)) (hs:Khp l) (k:Nat) (hk:k<=6) (hl:Kgo k l):Got ts (.level k) pos x (pos+x.toksP.length):=
 Kjp ha.skip (6-k) k (by omega) hl (by rw [show k+(6-k)=6 by omega];exact six (h.unary hx ha hs))
theorem Kd4.expr {x:Ex} (hx:Sh x) (h:Kd4 ts x) {pos:Nat} {l:List Tq} (ha:At ts pos (x.toksP ++ l)) (hs:Kir l):Got ts .expr pos x (pos+x.toksP.length):=
 Kgy ha.skip hs (h.unary hx ha hs.1)
end
def Kgu (k:Nat):List (List UInt8):=
 if k=0 then [[124],[94]] else if k=1 then [[38]] else if k=2 then [[61],[60,62],[60],[60,61],[62],[62,61]] else if k=3 then [[60,60],[62,62]] else if k=4 then [[43],[45]] else [[42],[47],[37]]
theorem Kji (k:Nat):Kdx k=(Kgu k).map mkB:=by
 unfold Kdx Kgu
 repeat' split
 all_goals rfl
def Khh:List (List UInt8):=[[124],[94],[38],[61],[60,62],[60],[60,61],[62],[62,61],[60,60],[62,62],[43],[45],[42],[47],[37]]
theorem Kgn (k:Nat):∀b∈Kgu k,b∈Khh:=by
 unfold Kgu
 repeat' split
 all_goals decide
theorem Kht {k:Nat} {l:List Tq} (h:∀j,k<=j->j<6->∀b∈Kgu j,Kd9 l (mkB b)=false):Kgo k l:=by
 intro j hj h6 m hm;rw [Kji] at hm;obtain⟨b,hb,rfl⟩:=List.mem_map.1 hm;exact h j hj h6 b hb
theorem Kme {c:List UInt8} {r:List Tq} (h:∀b∈[119,104,101,110] :: [117,110,108,101,115,115] :: [45,62] :: Khh,c≠b):Kir (tM c :: r):=by
 have hs:∀b∈[119,104,101,110] :: [117,110,108,101,115,115] :: [45,62] :: Khh,Kd9 (tM c :: r) (mkB b)=false:=fun b hb=>by rw [Kdo];simpa using h b hb
 exact⟨⟨hs _ (by simp),hs _ (by simp)⟩,Kht fun j _ _ b hb=>hs b (by have:=Kgn j b hb;simp [this]),hs _ (by simp)⟩
theorem Kmb {c:List UInt8} {r:List Tq} (h:∀b∈[119,104,101,110] :: [117,110,108,101,115,115] :: [45,62] :: Khh,c≠b):Kir (tW c :: r):=by
 have hs:∀b∈[119,104,101,110] :: [117,110,108,101,115,115] :: [45,62] :: Khh,Kd9 (tW c :: r) (mkB b)=false:=fun b hb=>by rw [Kdi];simpa using h b hb
 exact⟨⟨hs _ (by simp),hs _ (by simp)⟩,Kht fun j _ _ b hb=>hs b (by have:=Kgn j b hb;simp [this]),hs _ (by simp)⟩
theorem Klw {ts:List Tk} {pos:Nat} {b:List UInt8} {l:List Tq} (h:At ts pos (tM b :: l)):∀cs:List (List UInt8),b∈cs->Kd7 ts ⟨pos,false⟩ (cs.map mkB)=(mkB b,⟨pos+1,false⟩)
 | [],hb=>by simp at hb
 | c :: cs,hb=>by
  rw [List.map_cons,Kd7,Kef h,Kdo]
  by_cases hc:b=c
  ·subst hc;simp
  ·rw [if_neg (by simpa using hc)];exact Klw h cs (by simpa [hc] using hb)
theorem Kjt {n:Int} (h1:1<=n) (h2:n<=16):∃b k,k<6/\Ja6 n=mkB b/\b∈Kgu k/\opF (mkB b)=n/\(∀j,j<6->k<j->b ∉ Kgu j)/\b≠[45,62]/\b.length≠0/\b≠[119,104,101,110]/\b≠[117,110,108,101,115,115]:=by
 obtain h|h|h|h|h|h|h|h|h|h|h|h|h|h|h|h:n=1\/n=2\/n=3\/n=4\/n=5\/n=6\/n=7\/n=8\/n=9\/n=10\/n=11\/n=12\/n=13\/n=14\/n=15\/n=16:=by omega
 all_goals subst h
 ·exact⟨[43],4,by decide,rfl,by decide,by simp [opF,Kei,Ja6,Kc9],by decide,by decide,by decide,by decide,by decide⟩
 ·exact⟨[45],4,by decide,rfl,by decide,by simp [opF,Kei,Ja6,Kc9],by decide,by decide,by decide,by decide,by decide⟩
 ·exact⟨[42],5,by decide,rfl,by decide,by simp [opF,Kei,Ja6,Kc9],by decide,by decide,by decide,by decide,by decide⟩
 ·exact⟨[47],5,by decide,rfl,by decide,by simp [opF,Kei,Ja6,Kc9],by decide,by decide,by decide,by decide,by decide⟩
 ·exact⟨[37],5,by decide,rfl,by decide,by simp [opF,Kei,Ja6,Kc9],by decide,by decide,by decide,by decide,by decide⟩
 ·exact⟨[60,60],3,by decide,rfl,by decide,by simp [opF,Kei,Ja6,Kc9],by decide,by decide,by decide,by decide,by decide⟩
 ·exact⟨[62,62],3,by decide,rfl,by decide,by simp [opF,Kei,Ja6,Kc9],by decide,by decide,by decide,by decide,by decide⟩
 ·exact⟨[38],1,by decide,rfl,by decide,by simp [opF,Kei,Ja6,Kc9],by decide,by decide,by decide,by decide,by decide⟩
 ·exact⟨[124],0,by decide,rfl,by decide,by simp [opF,Kei,Ja6,Kc9],by decide,by decide,by decide,by decide,by decide⟩
 ·exact⟨[94],0,by decide,rfl,by decide,by simp [opF,Kei,Ja6,Kc9],by decide,by decide,by decide,by decide,by decide⟩
 ·exact⟨[61],2,by decide,rfl,by decide,by simp [opF,Kei,Ja6,Kc9],by decide,by decide,by decide,by decide,by decide⟩
 ·exact⟨[60,62],2,by decide,rfl,by decide,by simp [opF,Kei,Ja6,Kc9],by decide,by decide,by decide,by decide,by decide⟩
 ·exact⟨[60],2,by decide,rfl,by decide,by simp [opF,Kei,Ja6,Kc9],by decide,by decide,by decide,by decide,by decide⟩
 ·exact⟨[60,61],2,by decide,rfl,by decide,by simp [opF,Kei,Ja6,Kc9],by decide,by decide,by decide,by decide,by decide⟩
 ·exact⟨[62],2,by decide,rfl,by decide,by simp [opF,Kei,Ja6,Kc9],by decide,by decide,by decide,by decide,by decide⟩
 ·exact⟨[62,61],2,by decide,rfl,by decide,by simp [opF,Kei,Ja6,Kc9],by decide,by decide,by decide,by decide,by decide⟩
section
variable {ts:List Tk}
theorem Kdb {pos:Nat} {b:List UInt8} {l:List Tq} (ha:At ts pos (tW b :: l)) (c:List UInt8):Kc5 ts ⟨pos,false⟩ (mkB c)=(b == c):=by rw [Kef ha,Kdi]
theorem Ken {pos:Nat} {b:List UInt8} {l:List Tq} (ha:At ts pos (tM b :: l)) (c:List UInt8):Kc5 ts ⟨pos,false⟩ (mkB c)=(b == c):=by rw [Kef ha,Kdo]
theorem Kmk {n:Int} : Kd4 ts (.mk 1 n e0 []):=by
 intro pos l f ha hf;have e:(Ex.mk 1 n e0 []).toksP = [(2,Zn n,n)]:=by simp [Ex.toksP,Kfg,Ex.kind,Ex.toks,Kdj]
 rw [e] at ha ⊢;simp only [List.cons_append,List.nil_append] at ha;refine Kf5 ha (by simp) (fun f hf=>?_) f hf;obtain⟨f,rfl⟩:∃g,f=g+1:=⟨f-1,by omega⟩;obtain⟨h1,h2,h3⟩:=Kj2 ha;rw [K3,if_pos h1,h3,h2];rfl
theorem Kkc {n:Int} (hn:n=0\/n=1):Kd4 ts (.mk 2 n e0 []):=by
 intro pos l f ha hf
 rcases hn with rfl|rfl
 ·have e:(Ex.mk 2 0 e0 []).toksP = [tW [102,97,108,115,101]]:=by simp [Ex.toksP,Kfg,Ex.kind,Ex.toks,Kdj]
  rw [e] at ha ⊢;simp only [List.cons_append,List.nil_append] at ha;refine Kf5 ha (by simp) (fun f hf=>?_) f hf;obtain⟨f,rfl⟩:∃g,f=g+1:=⟨f-1,by omega⟩;rw [K3,if_neg (Kf1 ha (by decide)),if_neg (by rw [Kdb ha];decide),if_pos (by rw [Kdb ha];decide),Kdw ha (by rw [Kdi];decide)];rfl
 ·have e:(Ex.mk 2 1 e0 []).toksP = [tW [116,114,117,101]]:=by simp [Ex.toksP,Kfg,Ex.kind,Ex.toks,Kdj]
  rw [e] at ha ⊢;simp only [List.cons_append,List.nil_append] at ha;refine Kf5 ha (by simp) (fun f hf=>?_) f hf;obtain⟨f,rfl⟩:∃g,f=g+1:=⟨f-1,by omega⟩;rw [K3,if_neg (Kf1 ha (by decide)),if_pos (by rw [Kdb ha];decide),Kdw ha (by rw [Kdi];decide)];rfl
theorem Kml {s:ByteArray} : Kd4 ts (.mk 3 0 s []):=by
 intro pos l f ha hf;have e:(Ex.mk 3 0 s []).toksP = [tN s]:=by simp [Ex.toksP,Kfg,Ex.kind,Ex.toks,Kdj]
 rw [e] at ha ⊢;simp only [List.cons_append,List.nil_append] at ha;refine Kf5 ha (by simp) (fun f hf=>?_) f hf;obtain⟨f,rfl⟩:∃g,f=g+1:=⟨f-1,by omega⟩;have no:∀b,¬Kc5 ts ⟨pos,false⟩ b=true:=fun b=>by rw [Kef ha,Kgg];simp
 rw [K3,if_neg (Kf1 ha (by simp)),if_neg (no _),if_neg (no _),if_neg (no _),if_neg (no _),if_neg (no _),Kf3 ha];rfl
theorem Kln {k:Int} {s:ByteArray} {a:Ex} (hk:k=8\/k=9) (h:Kd4 ts a):Kd4 ts (.mk k 0 s [a]):=by
 intro pos l f ha hf
 rcases hk with rfl|rfl
 ·have e:(Ex.mk 8 0 s [a]).toksP=a.toksP ++ [tW [119,104,101,110],tN s]:=by simp [Ex.toksP,Kfg,Ex.kind,Ex.toks,Kdj,Ex.toksL]
  rw [e,List.append_assoc] at ha;rw [e,List.length_append];obtain⟨g,h1,h2⟩:=h pos _ f ha hf;have h3:=ha.skip;simp only [List.cons_append,List.nil_append] at h3;have am:=h3.lt;obtain⟨g,rfl⟩:∃h,g=h+1:=⟨g-1,by omega⟩;refine⟨g,?_,?_⟩
  ·rw [h1,K3,if_pos (by rw [Kdb h3];decide),Kdw h3 (by rw [Kdi];decide),Kf3 h3.next];simp [Nat.add_assoc]
  ·simp;omega
 ·have e:(Ex.mk 9 0 s [a]).toksP=a.toksP ++ [tW [117,110,108,101,115,115],tN s]:=by simp [Ex.toksP,Kfg,Ex.kind,Ex.toks,Kdj,Ex.toksL]
  rw [e,List.append_assoc] at ha;rw [e,List.length_append];obtain⟨g,h1,h2⟩:=h pos _ f ha hf;have h3:=ha.skip;simp only [List.cons_append,List.nil_append] at h3;have am:=h3.lt;obtain⟨g,rfl⟩:∃h,g=h+1:=⟨g-1,by omega⟩;refine⟨g,?_,?_⟩
  ·rw [h1,K3,if_neg (by rw [Kdb h3];decide),if_pos (by rw [Kdb h3];decide),Kdw h3 (by rw [Kdi];decide),Kf3 h3.next];simp [Nat.add_assoc]
  ·simp;omega
theorem Kj8 {x:Ex} (hx:Sh x) (h:Kd4 ts x) (e:x.toks=x.toksP):Kff ts x:=by
 intro pos l ha hs;rw [e] at ha ⊢;exact h.expr hx ha hs
theorem Kkq {x:Ex} (h:Kff ts x) (e:x.toksP=tM [40] :: (x.toks ++ [tM [41]])):Kd4 ts x:=by
 intro pos l f ha hf;rw [e] at ha ⊢;simp only [List.cons_append,List.append_assoc,List.nil_append] at ha;refine Kf5 ha (by simp) (fun f hf=>?_) f hf;obtain⟨f,rfl⟩:∃g,f=g+1:=⟨f-1,by omega⟩;have am:=ha.lt;simp only [NT.rank] at hf;have h1:=h (pos+1) _ ha.next (Kme (by decide)) f (by simp only [NT.rank];omega);rw [K3,if_neg (Kf1 ha (by decide)),if_neg (by rw [Ken ha];decide),if_neg (by rw [Ken ha];decide),if_pos (by rw [Ken ha];decide),Kdw ha (by rw [Kdo];decide),h1,Kea ha.next.skip (by rw [Kdo];decide)];simp;omega
end
section
variable {ts:List Tk}
theorem Knc {n:Int} {a:Ex} (hn:n=1\/n=2) (hx:Sh a) (h:Kd4 ts a):Kff ts (.mk 4 n e0 [a]):=by
 intro pos l ha hs
 rcases hn with rfl|rfl
 ·have e:(Ex.mk 4 1 e0 [a]).toks=tM [45] :: a.toksP:=by simp [Ex.toks,Kdj,Ex.toksL,Ex.toksP]
  rw [e] at ha ⊢;simp only [List.cons_append] at ha;have am:=ha.lt;have wt:=ha.next.skip;rw [List.length_cons,show pos+(a.toksP.length+1)=pos+1+a.toksP.length by omega];refine Kgy wt hs fun f hf=>?_;simp only [NT.rank] at hf;obtain⟨f,rfl⟩:∃g,f=g+1:=⟨f-1,by omega⟩;rw [K3,if_pos (by rw [Ken ha];decide),Kdw ha (by rw [Kdo];decide),h.unary hx ha.next hs.1 f (by simp only [NT.rank];omega)];rfl
 ·have e:(Ex.mk 4 2 e0 [a]).toks=tW [110,111,116] :: a.toksP:=by simp [Ex.toks,Kdj,Ex.toksL,Ex.toksP]
  rw [e] at ha ⊢;simp only [List.cons_append] at ha;have am:=ha.lt;have wt:=ha.next.skip;rw [List.length_cons,show pos+(a.toksP.length+1)=pos+1+a.toksP.length by omega];refine Kgy wt hs fun f hf=>?_;simp only [NT.rank] at hf;obtain⟨f,rfl⟩:∃g,f=g+1:=⟨f-1,by omega⟩;rw [K3,if_neg (by rw [Kdb ha];decide),if_pos (by rw [Kdb ha];decide),Kdw ha (by rw [Kdi];decide),h.unary hx ha.next hs.1 f (by simp only [NT.rank];omega)];rfl
theorem Kmd {n:Int} {a b:Ex} (h1:1<=n) (h2:n<=16) (hxa:Sh a) (rf:Sh b) (ha:Kd4 ts a) (hb:Kd4 ts b):Kff ts (.mk 5 n e0 [a,b]):=by
 intro pos l aY hs;obtain⟨m,k,hk,hm,aj,jf,lp,har,ai,jn,gG⟩:=Kjt h1 h2;have e:(Ex.mk 5 n e0 [a,b]).toks=a.toksP ++ tM m :: b.toksP:=by simp [Ex.toks,Kdj,Ex.toksL,Ex.toksP,hm]
 rw [e] at aY ⊢;rw [List.append_assoc,List.cons_append] at aY;have pr:=aY.skip;have zE:=pr.next;have wt:=zE.skip;have am:=pr.lt;have oo:pos+(a.toksP ++ tM m :: b.toksP).length=pos+a.toksP.length+1+b.toksP.length:=by simp;omega
 rw [oo];have hsf:Khp (tM m :: (b.toksP ++ l)):=⟨by rw [Kdo];simpa using jn,by rw [Kdo];simpa using gG⟩
 have dF:Kgo (k+1) (tM m :: (b.toksP ++ l)):=Kht fun j hj h6 c hc=>by
  rw [Kdo];have:=lp j h6 (by omega);simp only [beq_eq_false_iff_ne];rintro rfl;exact this hc
 have hla:=ha.level hxa aY hsf (k+1) (by omega) dF;have wU:=hb.level rf zE hs.1 (k+1) (by omega) (hs.2.1.up (by omega))
 have hlev:Got ts (.level k) pos (.mk 5 n e0 [a,b]) (pos+a.toksP.length+1+b.toksP.length):=by
  intro f hf;simp only [NT.rank] at hf;obtain⟨f,rfl⟩:∃g,f=g+1:=⟨f-1,by omega⟩;obtain⟨f,rfl⟩:∃g,f=g+1:=⟨f-1,by omega⟩;obtain⟨f,rfl⟩:∃g,f=g+1:=⟨f-1,by omega⟩;have cE:¬(mkB m).size=0:=by rw [Kd2];exact ai
  rw [K3,if_neg (by omega),hla _ (by simp only [NT.rank];omega),K3,Kji,Klw pr _ aj,if_neg cE,wU _ (by simp only [NT.rank];omega),jf]
  by_cases dz:k=2
  ·rw [if_pos dz];rfl
  ·rw [if_neg dz,K3,Kif wt _ (hs.2.1 k (by omega) hk),if_pos (by rfl)];rfl
 exact Kj5 wt hs.2.2 (Kjp wt k 0 (by omega) hs.2.1 (by rw [Nat.zero_add];exact hlev))
theorem Kl3 {a b c:Ex} (ha:Kff ts a) (hb:Kff ts b) (hc:Kff ts c):Kff ts (.mk 6 0 e0 [a,b,c]):=by
 intro pos l aY hs;have e:(Ex.mk 6 0 e0 [a,b,c]).toks=tW [105,102] :: (a.toks ++ tW [116,104,101,110] :: (b.toks ++ tW [101,108,115,101] :: c.toks)):=by simp [Ex.toks,Kdj,Ex.toksL]
 rw [e] at aY ⊢;simp only [List.cons_append,List.append_assoc] at aY;have l0:=aY.lt;have p1:=aY.next;have p2:=p1.skip;have l2:=p2.lt;have p3:=p2.next;have p4:=p3.skip;have l4:=p4.lt;have p5:=p4.next;have wt:=p5.skip;have oo:pos+(tW [105,102] :: (a.toks ++ tW [116,104,101,110] :: (b.toks ++ tW [101,108,115,101] :: c.toks))).length=pos+1+a.toks.length+1+b.toks.length+1+c.toks.length:=by simp;omega
 rw [oo];refine Kgy wt hs (Khx aY (by rw [Kdi];decide) (by rw [Kdi];decide) fun f hf=>?_);simp only [NT.rank] at hf;obtain⟨f,rfl⟩:∃g,f=g+1:=⟨f-1,by omega⟩;obtain⟨f,rfl⟩:∃g,f=g+1:=⟨f-1,by omega⟩;have hA:=ha _ _ p1 (Kmb (by decide)) f (by simp only [NT.rank];omega);have hB:=hb _ _ p3 (Kmb (by decide)) f (by simp only [NT.rank];omega);have hC:=hc _ _ p5 hs f (by simp only [NT.rank];omega)
 have hat':K3 ts (f+1) .atom ⟨pos,false⟩=(.mk 6 0 e0 [a,b,c],⟨pos+1+a.toks.length+1+b.toks.length+1+c.toks.length,false⟩):=by
  rw [K3,if_neg (Kf1 aY (by decide)),if_neg (by rw [Kdb aY];decide),if_neg (by rw [Kdb aY];decide),if_neg (by rw [Kdb aY];decide),if_pos (by rw [Kdb aY];decide),Kdw aY (by rw [Kdi];decide)];simp only [hA,Kea p2 (s:=⟨#[116,104,101,110]⟩) (by rw [Kdi];decide),hB,Kea p4 (s:=⟨#[101,108,115,101]⟩) (by rw [Kdi];decide),hC];rfl
 rw [K3,hat',Khy wt hs.1 (by omega)]
theorem Kkk {a b:Ex} (hxa:Sh a) (rf:Sh b) (ha:Kd4 ts a) (hb:Kd4 ts b):Kff ts (.mk 7 0 e0 [a,b]):=by
 intro pos l aY hs;have e:(Ex.mk 7 0 e0 [a,b]).toks=a.toksP ++ tM [45,62] :: b.toksP:=by simp [Ex.toks,Kdj,Ex.toksL,Ex.toksP]
 rw [e] at aY ⊢;rw [List.append_assoc,List.cons_append] at aY;have pr:=aY.skip;have zE:=pr.next;have wt:=zE.skip;have am:=pr.lt;have oo:pos+(a.toksP ++ tM [45,62] :: b.toksP).length=pos+a.toksP.length+1+b.toksP.length:=by simp;omega
 rw [oo];have hsf:Khp (tM [45,62] :: (b.toksP ++ l)):=⟨by rw [Kdo];decide,by rw [Kdo];decide⟩
 have dF:Kgo 0 (tM [45,62] :: (b.toksP ++ l)):=Kht fun j hj h6 c hc=>by
  rw [Kdo];have:=Kgn j c hc;simp only [beq_eq_false_iff_ne];rintro rfl
  revert this;decide
 have hla:=ha.level hxa aY hsf 0 (by omega) dF;have wU:=hb.expr rf zE hs;intro f hf;simp only [NT.rank] at hf;obtain⟨f,rfl⟩:∃g,f=g+1:=⟨f-1,by omega⟩;rw [K3,hla f (by simp only [NT.rank];omega),if_pos (by rw [Ken pr];decide),Kdw pr (by rw [Kdo];decide),wU f (by simp only [NT.rank];omega)];rfl
theorem Kkn {s:ByteArray} {a b:Ex} (hxa:Sh a) (rf:Sh b) (ha:Kd4 ts a) (hb:Kd4 ts b):Kff ts (.mk 10 0 s [a,b]):=by
 intro pos l aY hs;have e:(Ex.mk 10 0 s [a,b]).toks=tW [109,101,114,103,101] :: tN s :: (a.toksP ++ b.toksP):=by simp [Ex.toks,Kdj,Ex.toksL,Ex.toksP]
 rw [e] at aY ⊢;simp only [List.cons_append,List.append_assoc] at aY;have l0:=aY.lt;have p1:=aY.next;have l1:=p1.lt;have p2:=p1.next;have p3:=p2.skip;have wt:=p3.skip;have oo:pos+(tW [109,101,114,103,101] :: tN s :: (a.toksP ++ b.toksP)).length=pos+1+1+a.toksP.length+b.toksP.length:=by simp;omega
 rw [oo];refine Kgy wt hs (Khx aY (by rw [Kdi];decide) (by rw [Kdi];decide) fun f hf=>?_);simp only [NT.rank] at hf;obtain⟨f,rfl⟩:∃g,f=g+1:=⟨f-1,by omega⟩;obtain⟨f,rfl⟩:∃g,f=g+1:=⟨f-1,by omega⟩;have hA:=ha.got p2 (⟨Kg3 rf l (by simp) (by simp) (by simp),Kg3 rf l (by simp) (by simp) (by simp)⟩) f (by simp only [NT.rank];omega);have hB:=hb.got p3 hs.1 f (by simp only [NT.rank];omega)
 have hat':K3 ts (f+1) .atom ⟨pos,false⟩=(.mk 10 0 s [a,b],⟨pos+1+1+a.toksP.length+b.toksP.length,false⟩):=by
  rw [K3,if_neg (Kf1 aY (by decide)),if_neg (by rw [Kdb aY];decide),if_neg (by rw [Kdb aY];decide),if_neg (by rw [Kdb aY];decide),if_neg (by rw [Kdb aY];decide),if_pos (by rw [Kdb aY];decide),Kdw aY (by rw [Kdi];decide)];simp only [Kf3 p1,hA,hB]
 rw [K3,hat',Khy wt hs.1 (by omega)]
theorem Kmr (ts:List Tk) {x:Ex} (h:Sh x):Kd4 ts x/\Kff ts x:=by
 have flat:∀ {x:Ex},Sh x->Kd4 ts x->(x.kind=1\/x.kind=2\/x.kind=3\/x.kind=8\/x.kind=9)->Kd4 ts x/\Kff ts x:=fun hx h hk=>⟨h,Kj8 hx h (by unfold Ex.toksP Kfg;rw [if_pos hk])⟩;have brak:∀ {x:Ex},Kff ts x->¬(x.kind=1\/x.kind=2\/x.kind=3\/x.kind=8\/x.kind=9)->Kd4 ts x/\Kff ts x:=fun h hk=>⟨Kkq h (by unfold Ex.toksP Kfg;rw [if_neg hk]),h⟩
 induction h with
 | num h0 h1=>exact flat (.num h0 h1) Kmk (by simp [Ex.kind])
 | truth hn=>exact flat (.truth hn) (Kkc hn) (by simp [Ex.kind])
 | var hs=>exact flat (.var hs) Kml (by simp [Ex.kind])
 | un hn ha ih=>exact brak (Knc hn ha ih.1) (by simp [Ex.kind])
 | bin h1 h2 ha hb iha ihb=>exact brak (Kmd h1 h2 ha hb iha.1 ihb.1) (by simp [Ex.kind])
 | ite ha hb hc iha ihb ihc=>exact brak (Kl3 iha.2 ihb.2 ihc.2) (by simp [Ex.kind])
 | arrow ha hb iha ihb=>exact brak (Kkk ha hb iha.1 ihb.1) (by simp [Ex.kind])
 | when hk hs ha ih=>exact flat (.when hk hs ha) (Kln hk ih.1) (by simp [Ex.kind,hk])
 | merge hs ha hb iha ihb=>exact brak (Kkn ha hb iha.1 ihb.1) (by simp [Ex.kind])
end
def Kfa (q:Tq):Prop:=Kd9 [q] ⟨#[102,98,121]⟩=false/\Kd9 [q] ⟨#[112,114,101]⟩=false
theorem Kfe {b:List UInt8} (h:b≠[102,98,121]/\b≠[112,114,101]):Kfa (tW b):=⟨by rw [Kdi];simpa using h.1,by rw [Kdi];simpa using h.2⟩
theorem Kgk {b:List UInt8} (h:b≠[102,98,121]/\b≠[112,114,101]):Kfa (tM b):=⟨by rw [Kdo];simpa using h.1,by rw [Kdo];simpa using h.2⟩
theorem Kg8 (s:ByteArray):Kfa (tN s):=⟨Kgg _ _ _,Kgg _ _ _⟩
theorem Kk8 {n:Int} (h1:1<=n) (h2:n<=16):Kfa (4,Ja6 n,0):=by
 obtain⟨b,k,hk,hm,aj,_⟩:=Kjt h1 h2;rw [hm];have:=Kgn k b aj;refine Kgk ⟨?_,?_⟩ <;> · rintro rfl;revert this;decide
theorem Km2 {P:Tq->Prop} (h1:P (tM [40])) (h2:P (tM [41])) {k:Int} {t:List Tq} (h:∀q∈t,P q):∀q∈Kfg k t,P q:=by
 unfold Kfg
 split
 ·exact h
 ·intro q hq;simp only [List.mem_cons,List.mem_append,List.not_mem_nil,or_false] at hq
  rcases hq with rfl|hq|rfl
  ·exact h1
  ·exact h q hq
  ·exact h2
theorem Kit {x:Ex} (h:Sh x):∀q∈x.toks,Kfa q:=by
 have part:∀ {x:Ex},(∀q∈x.toks,Kfa q)->∀q∈x.toksP,Kfa q:=fun h=>Km2 (Kgk (by decide)) (Kgk (by decide)) h
 induction h with
 | @num n h0 h1=>
  have e:(Ex.mk 1 n e0 []).toks = [(2,Zn n,n)]:=by simp [Ex.toks,Kdj]
  rw [e];intro q hq;rw [List.mem_singleton.1 hq];exact⟨Kg7 _ _ _ _,Kg7 _ _ _ _⟩
 | @truth n hn=>
  rcases hn with rfl|rfl
  ·have e:(Ex.mk 2 0 e0 []).toks = [tW [102,97,108,115,101]]:=by simp [Ex.toks,Kdj]
   rw [e];intro q hq;rw [List.mem_singleton.1 hq];exact Kfe (by decide)
  ·have e:(Ex.mk 2 1 e0 []).toks = [tW [116,114,117,101]]:=by simp [Ex.toks,Kdj]
   rw [e];intro q hq;rw [List.mem_singleton.1 hq];exact Kfe (by decide)
 | @var s hs=>
  have e:(Ex.mk 3 0 s []).toks = [tN s]:=by simp [Ex.toks,Kdj]
  rw [e];intro q hq;rw [List.mem_singleton.1 hq];exact Kg8 _
 | @un n a hn ha ih=>
  have e:(Ex.mk 4 n e0 [a]).toks=(if n=2 then tW [110,111,116] else tM [45]) :: a.toksP:=by simp [Ex.toks,Kdj,Ex.toksL,Ex.toksP]
  rw [e];intro q hq
  rcases List.mem_cons.1 hq with rfl|hq
  ·split
   ·exact Kfe (by decide)
   ·exact Kgk (by decide)
  ·exact part ih q hq
 | @bin n a b h1 h2 ha hb iha ihb=>
  have e:(Ex.mk 5 n e0 [a,b]).toks=a.toksP ++ (4,Ja6 n,0) :: b.toksP:=by simp [Ex.toks,Kdj,Ex.toksL,Ex.toksP]
  rw [e];intro q hq;simp only [List.mem_append,List.mem_cons] at hq
  rcases hq with hq|rfl|hq
  ·exact part iha q hq
  ·exact Kk8 h1 h2
  ·exact part ihb q hq
 | @ite a b c ha hb hc iha ihb ihc=>
  have e:(Ex.mk 6 0 e0 [a,b,c]).toks=tW [105,102] :: (a.toks ++ tW [116,104,101,110] :: (b.toks ++ tW [101,108,115,101] :: c.toks)):=by simp [Ex.toks,Kdj,Ex.toksL]
  rw [e];intro q hq;simp only [List.mem_append,List.mem_cons] at hq
  rcases hq with rfl|hq|rfl|hq|rfl|hq
  ·exact Kfe (by decide)
  ·exact iha q hq
  ·exact Kfe (by decide)
  ·exact ihb q hq
  ·exact Kfe (by decide)
  ·exact ihc q hq
 | @arrow a b ha hb iha ihb=>
  have e:(Ex.mk 7 0 e0 [a,b]).toks=a.toksP ++ tM [45,62] :: b.toksP:=by simp [Ex.toks,Kdj,Ex.toksL,Ex.toksP]
  rw [e];intro q hq;simp only [List.mem_append,List.mem_cons] at hq
  rcases hq with hq|rfl|hq
  ·exact part iha q hq
  ·exact Kgk (by decide)
  ·exact part ihb q hq
 | @when k s a hk hs ha ih=>
  rcases hk with rfl|rfl
  ·have e:(Ex.mk 8 0 s [a]).toks=a.toksP ++ [tW [119,104,101,110],tN s]:=by simp [Ex.toks,Kdj,Ex.toksL,Ex.toksP]
   rw [e];intro q hq;simp only [List.mem_append,List.mem_cons,List.not_mem_nil,or_false] at hq
   rcases hq with hq|rfl|rfl
   ·exact part ih q hq
   ·exact Kfe (by decide)
   ·exact Kg8 _
  ·have e:(Ex.mk 9 0 s [a]).toks=a.toksP ++ [tW [117,110,108,101,115,115],tN s]:=by simp [Ex.toks,Kdj,Ex.toksL,Ex.toksP]
   rw [e];intro q hq;simp only [List.mem_append,List.mem_cons,List.not_mem_nil,or_false] at hq
   rcases hq with hq|rfl|rfl
   ·exact part ih q hq
   ·exact Kfe (by decide)
   ·exact Kg8 _
 | @merge s a b hs ha hb iha ihb=>
  have e:(Ex.mk 10 0 s [a,b]).toks=tW [109,101,114,103,101] :: tN s :: (a.toksP ++ b.toksP):=by simp [Ex.toks,Kdj,Ex.toksL,Ex.toksP]
  rw [e];intro q hq;simp only [List.mem_append,List.mem_cons] at hq
  rcases hq with rfl|rfl|hq|hq
  ·exact Kfe (by decide)
  ·exact Kg8 _
  ·exact part iha q hq
  ·exact part ihb q hq
theorem Ki4 (q:Tq) (l:List Tq) (s:ByteArray):Kd9 (q :: l) s=Kd9 [q] s:=rfl
theorem Kn4 {t l:List Tq} (h:∀q∈t,Kfa q):Kd9 (t ++ tM [59] :: l) ⟨#[102,98,121]⟩=false:=by
 cases t with
 | nil=>rw [List.nil_append,Kdo];decide
 | cons q t=>rw [List.cons_append,Ki4];exact(h q (by simp)).1
theorem Kmi {t l:List Tq} (h:∀q∈t,Kfa q) (ht:t≠[]):Kd9 (t ++ l) ⟨#[112,114,101]⟩=false:=by
 cases t with
 | nil=>exact absurd rfl ht
 | cons q t=>rw [List.cons_append,Ki4];exact(h q (by simp)).2
theorem Ki8 {x:Ex} (h:Sh x):x.toks≠[]:=by
 cases h with
 | when hk _ _=>rcases hk with rfl|rfl <;> simp [Ex.toks,Kdj]
 | _=>simp [Ex.toks,Kdj]
section
variable {ts:List Tk}
theorem Koa (v:Va) {own:Bool} (h:Ke v own=true):v.type=1\/v.type=2:=by
 unfold Ke at h;simp only [Bool.and_eq_true,Bool.or_eq_true,beq_iff_eq] at h;exact h.1.2
theorem Ki1 {v:Va} {own:Bool} (hv:Ke v own=true) {pos:Nat} {l:List Tq} (h:At ts pos (Kek v ++ l)):Kec ts ⟨pos,false⟩=(⟨v.name,v.type,0,e0⟩,⟨pos+3,false⟩)/\At ts (pos+3) (Kfs v ++ l):=by
 unfold Kek at h;simp only [List.cons_append] at h;have h1:=h.next;have h2:=h1.next;have h3:=h2.next;refine⟨?_,h3⟩;unfold Kec;simp only [Kf3 h,Kea h1 (s:=⟨#[58]⟩) (by rw [Kdo];decide)]
 by_cases ht:v.type=2
 ·simp only [if_pos ht] at h2;rw [if_pos (by rw [Kdb h2];decide),Kdw h2 (by rw [Kdi];decide),ht];rfl
 ·simp only [if_neg ht] at h2;have h1:v.type=1:=by rcases Koa v hv with h|h;exact h;exact absurd h ht
  rw [if_neg (by rw [Kdb h2];decide),Kea h2 (by rw [Kdi];decide),h1];rfl
theorem Kjx {v:Va} (hv:Ke v false=true):v=⟨v.name,v.type,0,e0⟩/\Kfs v = []:=by
 unfold Ke at hv;simp only [Bool.and_eq_true] at hv;have hc:=hv.2
 by_cases h0:v.ck=0
 ·rw [if_pos h0] at hc;have:=Kfz hc;refine⟨?_,?_⟩
  ·obtain⟨a,b,c,d⟩:=v;simp only at h0 this;rw [h0,this]
  ·unfold Kfs;rw [if_neg (by omega),if_neg (by omega)]
 ·rw [if_neg h0] at hc;simp at hc
theorem Kio:∀(l:List Va) (f:Nat) (out:List Va) (pos:Nat) (r:List Tq),(∀v∈l,Ke v false=true)->l.length<f->At ts pos (Kft l ++ tM [41] :: r)->Ke4 ts f out ⟨pos,false⟩=(out ++ l,⟨pos+(Kft l).length,false⟩)/\At ts (pos+(Kft l).length) (tM [41] :: r)
 | [],f,out,pos,r,_,hf,h=>by
  obtain⟨f,rfl⟩:∃g,f=g+1:=⟨f-1,by simp at hf;omega⟩;refine⟨?_,h⟩;simp only [Kft,List.nil_append] at h;rw [Ke4,if_neg (by rw [Ken h];decide)];simp [Kft]
 | v :: l,f,out,pos,r,hv,hf,h=>by
  obtain⟨f,rfl⟩:∃g,f=g+1:=⟨f-1,by simp at hf;omega⟩;simp only [Kft,List.cons_append,List.append_assoc] at h;have hvv:=hv v (by simp);obtain⟨hd,h3⟩:=Ki1 hvv h.next;obtain⟨he,hc⟩:=Kjx hvv;rw [hc,List.nil_append] at h3;obtain⟨h4,h5⟩:=Kio l f (out ++ [v]) (pos+1+3) r (fun x hx=>hv x (by simp [hx])) (by simp at hf;omega) h3;have ai:pos+(Kft (v :: l)).length=pos+1+3+(Kft l).length:=by simp [Kft,Kek,hc];omega
  rw [Ke4,if_pos (by rw [Ken h];decide),Kdw h (by rw [Kdo];decide),hd,<-he,ai];exact⟨by rw [h4];simp,h5⟩
theorem Kng (l:List Va):l.length<=(Kft l).length:=by
 induction l with
 | nil=>simp
 | cons v l ih=>simp [Kft];omega
theorem At.len {pos:Nat} {l:List Tq} (h:At ts pos l):l.length<=ts.length:=by
 have:=congrArg List.length h;simp at this;omega
theorem Kj4 {l:List Va} (hv:∀v∈l,Ke v false=true) {pos:Nat} {r:List Tq} (h:At ts pos (Kev l ++ r)):Ker ts ⟨pos,false⟩=(l,⟨pos+(Kev l).length,false⟩)/\At ts (pos+(Kev l).length) r:=by
 refine⟨?_,h.skip⟩
 cases l with
 | nil=>
  simp only [Kev,List.cons_append,List.nil_append] at h;unfold Ker;simp only [Kea h (s:=⟨#[40]⟩) (by rw [Kdo];decide)];rw [if_pos (by rw [Ken h.next];decide),Kdw h.next (by rw [Kdo];decide)];rfl
 | cons v l=>
  simp only [Kev,List.cons_append,List.nil_append,List.append_assoc] at h;have hvv:=hv v (by simp);obtain⟨hd,h3⟩:=Ki1 hvv h.next;obtain⟨he,hc⟩:=Kjx hvv;rw [hc,List.nil_append] at h3;have hl:=h3.len;rw [List.length_append] at hl;have:=Kng l;obtain⟨h4,h5⟩:=Kio l (ts.length+1) [v] (pos+1+3) r (fun x hx=>hv x (by simp [hx])) (by omega) h3
  have oG:¬Kc5 ts ⟨pos+1,false⟩ ⟨#[41]⟩=true:=by
   have:=h.next;unfold Kek at this;rw [Kef this,List.cons_append,Kgg];simp
  have ai:pos+(Kev (v :: l)).length=pos+1+3+(Kft l).length+1:=by simp [Kev,Kek,hc];omega
  unfold Ker;simp only [Kea h (s:=⟨#[40]⟩) (by rw [Kdo];decide),hd,if_neg oG,<-he,h4,Kea h5 (s:=⟨#[41]⟩) (by rw [Kdo];decide),ai];rfl
theorem Klx {v:Va} (hv:Ke v true=true) {pos:Nat} {r:List Tq} (h:At ts pos (Kek v ++ tM [59] :: r)):Kez ts ⟨pos,false⟩=(v,⟨pos+(Kek v).length+1,false⟩)/\At ts (pos+(Kek v).length+1) r:=by
 refine⟨?_,h.skip.next⟩;obtain⟨hd,h3⟩:=Ki1 hv h;have hc:=hv;unfold Ke at hc;simp only [Bool.and_eq_true] at hc;have hc:=hc.2;unfold Kez;simp only [hd]
 by_cases h1:v.ck=1
 ·have hct:Kfs v = [tW [119,104,101,110],tN v.cn]:=by unfold Kfs;rw [if_pos h1]
  rw [hct] at h3;simp only [List.cons_append,List.nil_append] at h3;have ai:pos+(Kek v).length+1=pos+3+1+1+1:=by simp [Kek,hct]
  simp only [if_pos (show Kc5 ts ⟨pos+3,false⟩ ⟨#[119,104,101,110]⟩=true by rw [Kdb h3];decide),Kdw h3 (s:=⟨#[119,104,101,110]⟩) (by rw [Kdi];decide),Kf3 h3.next,Kea h3.next.next (s:=⟨#[59]⟩) (by rw [Kdo];decide),ai];obtain⟨a,b,c,d⟩:=v;simp only at h1;rw [h1]
 ·by_cases h2:v.ck=2
  ·have hct:Kfs v = [tW [117,110,108,101,115,115],tN v.cn]:=by unfold Kfs;rw [if_neg h1,if_pos h2]
   rw [hct] at h3;simp only [List.cons_append,List.nil_append] at h3;have ai:pos+(Kek v).length+1=pos+3+1+1+1:=by simp [Kek,hct]
   simp only [if_neg (show ¬Kc5 ts ⟨pos+3,false⟩ ⟨#[119,104,101,110]⟩=true by rw [Kdb h3];decide),if_pos (show Kc5 ts ⟨pos+3,false⟩ ⟨#[117,110,108,101,115,115]⟩=true by rw [Kdb h3];decide),Kdw h3 (s:=⟨#[117,110,108,101,115,115]⟩) (by rw [Kdi];decide),Kf3 h3.next,Kea h3.next.next (s:=⟨#[59]⟩) (by rw [Kdo];decide),ai];obtain⟨a,b,c,d⟩:=v;simp only at h2;rw [h2]
  ·have h0:v.ck=0:=by
    by_cases h0:v.ck=0
    ·exact h0
    ·rw [if_neg h0,if_neg (by omega)] at hc;simp at hc
   rw [if_pos h0] at hc;have hct:Kfs v = []:=by unfold Kfs;rw [if_neg h1,if_neg h2]
   rw [hct,List.nil_append] at h3;have ai:pos+(Kek v).length+1=pos+3+1:=by simp [Kek,hct]
   simp only [if_neg (show ¬Kc5 ts ⟨pos+3,false⟩ ⟨#[119,104,101,110]⟩=true by rw [Ken h3];decide),if_neg (show ¬Kc5 ts ⟨pos+3,false⟩ ⟨#[117,110,108,101,115,115]⟩=true by rw [Ken h3];decide),Kea h3 (s:=⟨#[59]⟩) (by rw [Kdo];decide),ai];have:=Kfz hc;obtain⟨a,b,c,d⟩:=v;simp only at h0 this;rw [h0,this]
end
section
variable {ts:List Tk}
theorem Kik {e:Ex} (h:e.same Ex.zero=true):e=Ex.zero:=by
 obtain⟨k,n,s,l⟩:=e;rw [Ex.same_eq] at h;simp only [Ex.kind,Ex.n,Ex.name,Ex.sub,Ex.zero,Bool.and_eq_true,beq_iff_eq] at h;obtain⟨⟨⟨⟨rfl,rfl⟩,hs⟩,hl⟩,_⟩:=h;obtain rfl:l = []:=List.eq_nil_of_length_eq_zero hl;have:s=⟨#[]⟩:=Zf.1 (by rw [hs];simp);rw [this];rfl
theorem Klm {x:Ex} (h:x.literal=true) {pos:Nat} {l:List Tq} (aY:At ts pos (x.toks ++ tW [102,98,121] :: l)):Kem ts ⟨pos,false⟩=some (x,⟨pos+x.toks.length+1,false⟩):=by
 rcases(Kgm h).2 with ⟨n,h0,h1,rfl⟩|⟨n,hn,rfl⟩|⟨n,h0,h1,rfl⟩
 ·have e:(Ex.mk 1 n e0 []).toks = [(2,Zn n,n)]:=by simp [Ex.toks,Kdj]
  rw [e] at aY ⊢;simp only [List.cons_append,List.nil_append] at aY;have hm:¬Kc5 ts ⟨pos,false⟩ ⟨#[45]⟩=true:=by rw [Kef aY,Kg7];simp
  have ht:Kc6 ts ⟨pos,false⟩ ⟨#[45]⟩=⟨pos,false⟩:=by unfold Kc6;rw [if_neg hm]
  obtain⟨a1,a2,a3⟩:=Kj2 aY;unfold Kem Kfx;rw [ht,if_pos a1,a2];simp only [if_pos (show Kc5 ts ⟨pos+1,false⟩ ⟨#[102,98,121]⟩=true by rw [Kdb aY.next];decide),if_neg hm,Kdw aY.next (s:=⟨#[102,98,121]⟩) (by rw [Kdi];decide)];rfl
 ·rcases hn with rfl|rfl
  ·have e:(Ex.mk 2 0 e0 []).toks = [tW [102,97,108,115,101]]:=by simp [Ex.toks,Kdj]
   rw [e] at aY ⊢;simp only [List.cons_append,List.nil_append] at aY;have hm:¬Kc5 ts ⟨pos,false⟩ ⟨#[45]⟩=true:=by rw [Kdb aY];decide
   have ht:Kc6 ts ⟨pos,false⟩ ⟨#[45]⟩=⟨pos,false⟩:=by unfold Kc6;rw [if_neg hm]
   unfold Kem Kfx;rw [ht,if_neg (Kf1 aY (by decide)),if_neg hm,if_neg (by rw [Kdb aY];decide),if_pos (by rw [Kdb aY];decide),Kdw aY (by rw [Kdi];decide)];simp only [if_pos (show Kc5 ts ⟨pos+1,false⟩ ⟨#[102,98,121]⟩=true by rw [Kdb aY.next];decide),if_neg hm,Kdw aY.next (s:=⟨#[102,98,121]⟩) (by rw [Kdi];decide)];rfl
  ·have e:(Ex.mk 2 1 e0 []).toks = [tW [116,114,117,101]]:=by simp [Ex.toks,Kdj]
   rw [e] at aY ⊢;simp only [List.cons_append,List.nil_append] at aY;have hm:¬Kc5 ts ⟨pos,false⟩ ⟨#[45]⟩=true:=by rw [Kdb aY];decide
   have ht:Kc6 ts ⟨pos,false⟩ ⟨#[45]⟩=⟨pos,false⟩:=by unfold Kc6;rw [if_neg hm]
   unfold Kem Kfx;rw [ht,if_neg (Kf1 aY (by decide)),if_neg hm,if_pos (by rw [Kdb aY];decide),Kdw aY (by rw [Kdi];decide)];simp only [if_pos (show Kc5 ts ⟨pos+1,false⟩ ⟨#[102,98,121]⟩=true by rw [Kdb aY.next];decide),if_neg hm,Kdw aY.next (s:=⟨#[102,98,121]⟩) (by rw [Kdi];decide)];rfl
 ·have e:(Ex.mk 4 1 e0 [.mk 1 n e0 []]).toks = [tM [45],(2,Zn n,n)]:=by simp [Ex.toks,Kdj,Ex.toksL,Kfg,Ex.kind]
  rw [e] at aY ⊢;simp only [List.cons_append,List.nil_append] at aY;have hm:Kc5 ts ⟨pos,false⟩ ⟨#[45]⟩=true:=by rw [Ken aY];decide
  obtain⟨a1,a2,a3⟩:=Kj2 aY.next;unfold Kem Kfx;rw [Kdw aY (s:=⟨#[45]⟩) (by rw [Kdo];decide),if_pos a1,a2];simp only [if_pos (show Kc5 ts ⟨pos+1+1,false⟩ ⟨#[102,98,121]⟩=true by rw [Kdb aY.next.next];decide),if_pos hm,Kdw aY.next.next (s:=⟨#[102,98,121]⟩) (by rw [Kdi];decide)];rfl
theorem Kmy {t l:List Tq} (ht:∀q∈t,Kfa q) {pos:Nat} (aY:At ts pos (t ++ tM [59] :: l)) (m:Bool):Kfx ts m ⟨pos,false⟩=none\/∃x,Kfx ts m ⟨pos,false⟩=some (x,⟨pos+1,false⟩)/\Kc5 ts ⟨pos+1,false⟩ ⟨#[102,98,121]⟩=false:=by
 cases t with
 | nil=>
  left
  rw [List.nil_append] at aY;unfold Kfx;rw [if_neg (Kf1 aY (by decide))]
  split
  ·rfl
  ·rw [if_neg (by rw [Ken aY];decide),if_neg (by rw [Ken aY];decide)]
 | cons q t=>
  rw [List.cons_append] at aY;have hn:Kc5 ts ⟨pos+1,false⟩ ⟨#[102,98,121]⟩=false:=by rw [Kef aY.next];exact Kn4 fun x hx=>ht x (by simp [hx])
  unfold Kfx
  split
  ·exact .inr ⟨_,rfl,hn⟩
  ·split
   ·exact .inl rfl
   ·split
    ·rename_i h;exact .inr ⟨_,by unfold Kc6;rw [if_pos h],hn⟩
    ·split
     ·rename_i h;exact .inr ⟨_,by unfold Kc6;rw [if_pos h],hn⟩
     ·exact .inl rfl
theorem Kho {t l:List Tq} (ht:∀q∈t,Kfa q) (aS:t≠[]) {pos:Nat} (aY:At ts pos (t ++ tM [59] :: l)):Kem ts ⟨pos,false⟩=none:=by
 have go:∀(p:Nat) (t:List Tq),(∀q∈t,Kfa q)->At ts p (t ++ tM [59] :: l)->∀b b',(match Kfx ts b ⟨p,false⟩ with
  | none=>none
  | some (x,s)=>if Kc5 ts s ⟨#[102,98,121]⟩=true then some (if b'=true then Ex.mk 4 1 ⟨#[]⟩ [x] else x,Kc6 ts s ⟨#[102,98,121]⟩) else none)=none:=by
  intro p t ht aY b b'
  rcases Kmy ht aY b with h|⟨x,h,h2⟩
  ·rw [h]
  ·rw [h];simp only [h2];rfl
 unfold Kem
 cases hm:Kc5 ts ⟨pos,false⟩ ⟨#[45]⟩ with
 | true=>
  have e:Kc6 ts ⟨pos,false⟩ ⟨#[45]⟩=⟨pos+1,false⟩:=by unfold Kc6;rw [if_pos hm]
  rw [e]
  cases t with
  | nil=>exact absurd rfl aS
  | cons q t=>
   rw [List.cons_append] at aY;exact go (pos+1) t (fun x hx=>ht x (by simp [hx])) aY.next _ _
 | false=>
  have e:Kc6 ts ⟨pos,false⟩ ⟨#[45]⟩=⟨pos,false⟩:=by unfold Kc6;rw [if_neg (by rw [hm];simp)]
  rw [e];exact go pos t ht aY _ _
theorem Kiy {x:Ex} (hx:Sh x) {pos:Nat} {l:List Tq} (aY:At ts pos (x.toks ++ tM [59] :: l)):K3 ts (Kfc ts) .expr ⟨pos,false⟩=(x,⟨pos+x.toks.length,false⟩):=
 (Kmr ts hx).2 pos _ aY (Kme (by decide)) _ (by simp only [NT.rank,Kfc];omega)
theorem Kki {q:Qe} (h:eqB q=true) {pos:Nat} {l:List Tq} (aY:At ts pos (eqT q ++ l)):Kdt ts ⟨pos,false⟩=(q,⟨pos+(eqT q).length,false⟩)/\At ts (pos+(eqT q).length) l:=by
 refine⟨?_,aY.skip⟩;obtain⟨hn,he,_,hd⟩:=Kjy h;unfold eqT at aY;simp only [List.cons_append,List.append_assoc,List.nil_append] at aY;have h2:=aY.next.next;have hp:=Kit he;have aS:=Ki8 he;unfold Kdt;simp only [Kf3 aY,Kea aY.next (s:=⟨#[61]⟩) (by rw [Kdo];decide)]
 rcases hd with ⟨hd,hl⟩|⟨hd|hd,hz⟩
 ·have hdt:Kgc q=q.first.toks ++ [tW [102,98,121]]:=by unfold Kgc;rw [if_pos hd]
  rw [hdt] at h2;simp only [List.append_assoc,List.cons_append,List.nil_append] at h2;have hfp:=Kit (Kgm hl).1;have lF:=Ki8 (Kgm hl).1;have h3:=h2.skip.next;have ai:pos+(eqT q).length=pos+1+1+q.first.toks.length+1+q.e.toks.length+1:=by simp [eqT,hdt];omega
  rw [if_neg (by rw [Kef h2,Kmi hfp lF];simp),Klm hl h2];simp only [Kiy he h3,Kea h3.skip (s:=⟨#[59]⟩) (by rw [Kdo];decide),ai];obtain⟨a,b,c,d⟩:=q;simp only at hd;rw [hd]
 ·have hdt:Kgc q = []:=by unfold Kgc;rw [if_neg (by omega),if_neg (by omega)]
  rw [hdt,List.nil_append] at h2;have ai:pos+(eqT q).length=pos+1+1+q.e.toks.length+1:=by simp [eqT,hdt];omega
  rw [if_neg (by rw [Kef h2,Kmi hp aS];simp),Kho hp aS h2];simp only [Kiy he h2,Kea h2.skip (s:=⟨#[59]⟩) (by rw [Kdo];decide),ai];have:=Kik hz;obtain⟨a,b,c,d⟩:=q;simp only at hd this;rw [hd,this]
 ·have hdt:Kgc q = [tW [112,114,101]]:=by unfold Kgc;rw [if_neg (by omega),if_pos hd]
  rw [hdt] at h2;simp only [List.append_assoc,List.cons_append,List.nil_append] at h2;have ai:pos+(eqT q).length=pos+1+1+1+q.e.toks.length+1:=by simp [eqT,hdt];omega
  rw [if_pos (by rw [Kdb h2];decide),Kdw h2 (s:=⟨#[112,114,101]⟩) (by rw [Kdi];decide)];simp only [Kiy he h2.next,Kea h2.next.skip (s:=⟨#[59]⟩) (by rw [Kdo];decide),ai];have:=Kik hz;obtain⟨a,b,c,d⟩:=q;simp only at hd this;rw [hd,this]
theorem Kmm (fin:Int):∀(l:List Qe) (f:Nat) (out:List Qe) (pos:Nat) (r:List Tq),(∀q∈l,eqB q=true)->l.length<f->At ts pos (Kfv l ++ tW [116,101,108] :: r)->Kd8 ts fin f out ⟨pos,false⟩=(out ++ l,0,0,⟨pos+(Kfv l).length+1,false⟩)
 | [],f,out,pos,r,_,hf,aY=>by
  obtain⟨f,rfl⟩:∃g,f=g+1:=⟨f-1,by simp at hf;omega⟩;simp only [Kfv,List.nil_append] at aY;rw [Kd8,if_neg (by simp),if_pos (by rw [Kdb aY];decide),Kdw aY (by rw [Kdi];decide)];simp [Kfv]
 | q :: l,f,out,pos,r,hq,hf,aY=>by
  obtain⟨f,rfl⟩:∃g,f=g+1:=⟨f-1,by simp at hf;omega⟩;simp only [Kfv,List.append_assoc] at aY;obtain⟨h1,h2⟩:=Kki (hq q (by simp)) aY
  have hn:¬Kc5 ts ⟨pos,false⟩ ⟨#[116,101,108]⟩=true:=by
   have:=aY;unfold eqT at this;rw [Kef this,List.cons_append,Kgg];simp
  have hr:=(Kjy (hq q (by simp))).2.2.1;have ai:pos+(Kfv (q :: l)).length=pos+(eqT q).length+(Kfv l).length:=by simp [Kfv];omega
  rw [Kd8,if_neg (by simp),if_neg hn,h1,if_neg (by simp),if_neg (by simpa using hr),Kmm fin l f _ _ r (fun x hx=>hq x (by simp [hx])) (by simp at hf;omega) h2,ai];simp
theorem Kkv:∀(l:List Va) (f:Nat) (out:List Va) (pos:Nat) (r:List Tq),(∀v∈l,Ke v true=true)->l.length<f->At ts pos (Keb l ++ tW [108,101,116] :: r)->Kfj ts f out ⟨pos,false⟩=(out ++ l,⟨pos+(Keb l).length,false⟩)
 | [],f,out,pos,r,_,hf,aY=>by
  obtain⟨f,rfl⟩:∃g,f=g+1:=⟨f-1,by simp at hf;omega⟩;simp only [Keb,List.nil_append] at aY;rw [Kfj,if_neg (by simp),if_pos (by rw [Kdb aY];decide)];simp [Keb]
 | v :: l,f,out,pos,r,hv,hf,aY=>by
  obtain⟨f,rfl⟩:∃g,f=g+1:=⟨f-1,by simp at hf;omega⟩;simp only [Keb,List.append_assoc,List.cons_append] at aY;obtain⟨h1,h2⟩:=Klx (hv v (by simp)) aY
  have hn:¬Kc5 ts ⟨pos,false⟩ ⟨#[108,101,116]⟩=true:=by
   have:=aY;unfold Kek at this;rw [Kef this,List.cons_append,Kgg];simp
  have ai:pos+(Keb (v :: l)).length=pos+(Kek v).length+1+(Keb l).length:=by simp [Keb];omega
  rw [Kfj,if_neg (by simp),if_neg hn,h1,Kkv l f _ _ r (fun x hx=>hv x (by simp [hx])) (by simp at hf;omega) h2,ai];simp
theorem Kj9 (l:List Va):l.length<=(Keb l).length:=by
 induction l with
 | nil=>simp
 | cons v l ih=>simp [Keb];omega
theorem Km3 (l:List Qe):l.length<=(Kfv l).length:=by
 induction l with
 | nil=>simp
 | cons v l ih=>simp [Kfv,eqT];omega
theorem Kh1 {p:Pr} (h:Qw p=true) (fin:Int) (aY:ts.map Tk.q=Kgz p):∃st,Kew ts=({p with eqs:=[]},st)/\Kd8 ts fin (ts.length+1) [] st=(p.eqs,0,0,⟨ts.length,false⟩):=by
 obtain⟨hn,hi,ho,hl,hq⟩:=Ki6 h;have a0:At ts 0 (Kgz p):=aY;unfold Kgz at a0;have a1:=a0.next;have a2:=a1.next;obtain⟨d1,a3⟩:=Kj4 hi a2;have a4:=a3.next;obtain⟨d2,a5⟩:=Kj4 ho a4;have a6:=a5.next;unfold Kew;simp only [Kea a0 (s:=⟨#[110,111,100,101]⟩) (by rw [Kdi];decide),Kf3 a1,d1,Kea a3 (s:=⟨#[114,101,116,117,114,110,115]⟩) (by rw [Kdi];decide),d2,Kea a5 (s:=⟨#[59]⟩) (by rw [Kdo];decide)]
 have fin_at:∀pos,At ts pos (tW [108,101,116] :: (Kfv p.eqs ++ [tW [116,101,108]]))->Kd8 ts fin (ts.length+1) [] (Kda ts ⟨pos,false⟩ ⟨#[108,101,116]⟩)=(p.eqs,0,0,⟨ts.length,false⟩):=by
  intro pos aY;have ai:=aY.next.len;rw [List.length_append] at ai;have:=Km3 p.eqs;rw [Kea aY (by rw [Kdi];decide),Kmm fin p.eqs (ts.length+1) [] _ [] hq (by omega) aY.next];have h2:=congrArg List.length aY;have h3:=aY.lt;simp at h2;have:pos+1+(Kfv p.eqs).length+1=ts.length:=by omega
  rw [this];rfl
 by_cases hp:0<p.locals.length
 ·rw [if_pos hp] at a6;rw [List.cons_append] at a6
  cases kq:p.locals with
  | nil=>rw [kq] at hp;simp at hp
  | cons v l=>
   rw [kq] at a6 hl;have a7:=a6.next;simp only [Keb,List.append_assoc,List.cons_append] at a7;obtain⟨d3,a8⟩:=Klx (hl v (by simp)) a7;have ai:=a8.len;rw [List.length_append] at ai;have:=Kj9 l;have d4:=Kkv l (ts.length+1) [v] _ _ (fun x hx=>hl x (by simp [hx])) (by omega) a8;rw [if_pos (by rw [Kdb a6];decide),Kdw a6 (s:=⟨#[118,97,114]⟩) (by rw [Kdi];decide)];simp only [d3,d4];refine⟨_,rfl,?_⟩;exact fin_at _ a8.skip
 ·rw [if_neg hp,List.nil_append] at a6;have hnil:p.locals = []:=List.eq_nil_of_length_eq_zero (by omega);rw [if_neg (by rw [Kdb a6];decide),hnil];exact⟨_,rfl,fin_at _ a6⟩
theorem Kkf {p:Pr} (h:Qw p=true) (hs:(Jal p).size<=4096):Kdm (Jal p)=(p,0,0):=by
 have hl:(Jal p).toList.length=(Jal p).size:=by rw [ByteArray.toList_eq,Array.length_toList,ByteArray.size_data]
 obtain⟨ts,h1,h2⟩:=Kib (Kkg h) (by omega);rw [Khs] at h1;obtain⟨st,h3,h4⟩:=Kh1 h (Jal p).size h2;unfold Kdm;rw [h1];simp only [h3,h4];simp
end
structure Kld (m:Nat) (t:Tk):Prop where
 text:t.text.size<=m
 num:I32 t.n
 kind:0<=t.kind/\t.kind<=4
 pos:0<=t.pos/\t.pos<=m
theorem Kmo (s:ByteArray):I32 (Kfw s).1:=by
 have h0:I32 0:=⟨by omega,by omega⟩;unfold Kfw
 split
 ·exact h0
 ·split
  ·exact h0
  ·split
   ·exact h0
   ·split
    ·exact h0
    ·rename_i n _
     by_cases h : -2147483648<=(if s.data.toList.head?=some 45 then -n else n)/\(if s.data.toList.head?=some 45 then -n else n)<=2147483647
     ·rw [if_pos h];exact h
     ·rw [if_neg h];exact h0
theorem Kin (p:Int->Bool) (s:ByteArray):(Kc8 p s).size<=s.size:=by
 unfold Kc8;rw [ByteArray.size_extract];omega
theorem Knx (s:ByteArray):(Kdg s).1.text.size<=s.size/\I32 (Kdg s).1.n/\0<=(Kdg s).1.kind/\(Kdg s).1.kind<=4:=by
 have h0:I32 0:=⟨by omega,by omega⟩;have h1:=Kin Q5 s;have h2:=Kin Jbz s;have h3:=Kmo (Kc8 Jbz s);have h4:(s.extract 0 2).size<=s.size:=by rw [ByteArray.size_extract];omega
 have h5:(s.extract 0 1).size<=s.size:=by rw [ByteArray.size_extract];omega
 unfold Kdg
 split
 ·split
  ·exact⟨h1,h0,by simp,by simp⟩
  ·split
   ·exact⟨h1,h0,by simp,by simp⟩
   ·exact⟨h1,h0,by simp,by simp⟩
 ·split
  ·split
   ·exact⟨h2,h3,by simp,by simp⟩
   ·exact⟨h2,h0,by simp,by simp⟩
  ·split
   ·exact⟨h4,h0,by simp,by simp⟩
   ·split
    ·exact⟨h5,h0,by simp,by simp⟩
    ·exact⟨Nat.zero_le _,h0,by simp,by simp⟩
theorem Kfb (s:ByteArray) (k:Nat):(Kd6 s k).size<=s.size:=by unfold Kd6;rw [ByteArray.size_extract];omega
theorem Kh9:∀f s,(Kgb f s).size<=s.size
 | 0,s=>Nat.le_refl _
 | f+1,s=>by
  have h1:=Kfb s (Kc8 Kdh s).size;rw [Kgb]
  split
  ·exact h1
  ·split
   ·exact Nat.le_trans (Nat.le_trans (Kh9 f _) (Kfb _ _)) h1
   ·exact h1
theorem Kiv (s:ByteArray):(Kfi s).size<=s.size:=Kh9 _ _
theorem Kjl (m:Nat):∀f left out,left.size<=m->(∀t∈out,Kld m t)->(∀t∈(Key m f left out).1,Kld m t)/\(Key m f left out).1.length<=out.length+f
 | 0,left,out,_,ho=>⟨ho,Nat.le_refl _⟩
 | f+1,left,out,hl,ho=>by
  rw [Key]
  split
  ·exact⟨ho,by simp⟩
  ·split
   ·obtain⟨n1,n2,n3,n4⟩:=Knx left
    have:=Kjl m f (Kfi (Kd6 left (Kdg left).1.text.size)) (out ++ [{(Kdg left).1 with pos:=(m:Int)-left.size}]) (Nat.le_trans (Kiv _) (Nat.le_trans (Kfb _ _) hl)) (fun t ht=>by
     rcases List.mem_append.1 ht with ht|ht
     ·exact ho t ht
     ·rw [List.mem_singleton.1 ht];exact⟨Nat.le_trans n1 hl,n2,⟨n3,n4⟩,by simp;omega,by simp;omega⟩)
    refine⟨this.1,Nat.le_trans this.2 ?_⟩;simp;omega
   ·exact⟨by simp,by simp⟩
theorem Kmt (s:ByteArray):(∀t∈(Kdk s).1,Kld 4096 t)/\(Kdk s).1.length<=4097:=by
 unfold Kdk
 split
 ·exact⟨by simp,by simp⟩
 ·rename_i h;have:=Kjl s.size (s.size+1) (Kfi s) [] (Kiv s) (by simp);refine⟨fun t ht=>?_,by have:=this.2;simp at this;omega⟩;have h2:=this.1 t ht;exact⟨by have:=h2.text;omega,h2.num,h2.kind,h2.pos.1,by have:=h2.pos.2;omega⟩
section
variable {ts:List Tk}
def Kge (ts:List Tk):Prop:=∀t∈ts,Kld 4096 t
theorem Kjr (h:Kge ts) (st:St) (k:Int):(Kdy ts st k).1.text.size<=4096/\I32 (Kdy ts st k).1.n:=by
 have h0:tkZ.text.size<=4096/\I32 tkZ.n:=⟨Nat.zero_le _,by simp [tkZ],by simp [tkZ]⟩;unfold Kdy
 split
 ·exact h0
 ·rename_i t ht
  split
  ·have:t∈ts:=by
    unfold Kc7 at ht
    split at ht
    ·simp at ht
    ·exact List.mem_of_getElem? ht
   exact⟨(h t this).text,(h t this).num⟩
  ·exact h0
theorem Kmu (h:Kge ts) (st:St):I32 ((Kc7 ts st).getD tkZ).n:=by
 cases ht:Kc7 ts st with
 | none=>exact⟨by simp [tkZ],by simp [tkZ]⟩
 | some t=>
  have:t∈ts:=by
   unfold Kc7 at ht
   split at ht
   ·simp at ht
   ·exact List.mem_of_getElem? ht
  exact(h t this).num
theorem Kfn (h:Kge ts) (st:St):(Kdn ts st).1.size<=maxLen:=by
 have:=(Kjr h st 1).1;unfold Kdn maxLen;show(Kdy ts st 1).1.text.size<=_;omega
theorem Kkw (s:ByteArray):∀f op,0<=op->op<=100->0<=Kei s f op/\Kei s f op<=100+f
 | 0,op,h,h'=>by simp [Kei]
 | f+1,op,h,h'=>by
  rw [Kei]
  split
  ·omega
  ·by_cases h100:op=100
   ·subst h100
    have:∀f op,100<=op->op<=100+1->0<=Kei s f op/\Kei s f op<=100+1+f:=by
     intro f
     induction f with
     | zero=>intro op _ _;simp [Kei]
     | succ f ih=>
      intro op h1 h2;rw [Kei]
      have hmono:∀g o,0<=o->0<=Kei s g o/\Kei s g o<=max 0 (o+g):=by
       intro g
       induction g with
       | zero=>intro o ho;simp [Kei];omega
       | succ g ihg=>
        intro o ho;rw [Kei]
        split
        ·omega
        ·have:=ihg (o+1) (by omega);omega
      split
      ·omega
      ·have:=hmono f (op+1) (by omega);omega
    have:=this f (100+1) (by omega) (by omega);omega
   ·have:=Kkw s f (op+1) (by omega) (by omega);omega
theorem Kn2 (s:ByteArray):I32 (opF s):=by
 have:=Kkw s 16 1 (by omega) (by omega);unfold opF I32;omega
theorem ok0 {k n:Int} {s:ByteArray} (hk:I64 k) (hn:I32 n) (hs:s.size<=maxLen):(Ex.mk k n s []).OK:=by simp [Ex.OK,Ex.OKL, *]
theorem ok1 {k n:Int} {s:ByteArray} {a:Ex} (hk:I64 k) (hn:I32 n) (hs:s.size<=maxLen) (ha:a.OK):(Ex.mk k n s [a]).OK:=by simp [Ex.OK,Ex.OKL, *]
theorem ok2 {k n:Int} {s:ByteArray} {a b:Ex} (hk:I64 k) (hn:I32 n) (hs:s.size<=maxLen) (ha:a.OK) (hb:b.OK):(Ex.mk k n s [a,b]).OK:=by simp [Ex.OK,Ex.OKL, *]
theorem ok3 {k n:Int} {s:ByteArray} {a b c:Ex} (hk:I64 k) (hn:I32 n) (hs:s.size<=maxLen) (ha:a.OK) (hb:b.OK) (hc:c.OK):(Ex.mk k n s [a,b,c]).OK:=by simp [Ex.OK,Ex.OKL, *]
theorem Keh:(⟨#[]⟩:ByteArray).size<=maxLen:=Nat.zero_le _
theorem Kix:Ex.zero.OK:=ok0 (by simp [I64]) (by simp [I32]) Keh
def NT.OK:NT->Prop
 | .loop _ l=>l.OK
 | .floop x=>x.OK
 | _=>True
theorem Kmz (h:Kge ts):∀f nt st,nt.OK->(K3 ts f nt st).1.OK:=by
 have i0:∀k:Int,0<=k->k<=10->I64 k:=fun k h1 h2=>⟨by omega,by omega⟩;have j0:∀k:Int,0<=k->k<=10->I32 k:=fun k h1 h2=>⟨by omega,by omega⟩;intro f
 induction f with
 | zero=>intro nt st _;cases nt <;> exact Kix
 | succ f ih=>
  intro nt st hnt
  cases nt with
  | expr=>
   rw [K3];split
   ·exact ok2 (i0 7 (by omega) (by omega)) (j0 0 (by omega) (by omega)) Keh (ih _ _ trivial) (ih _ _ trivial)
   ·exact ih _ _ trivial
  | level k=>
   rw [K3];split
   ·exact ih _ _ trivial
   ·exact ih _ _ (ih _ _ trivial)
  | loop k l=>
   have hb:(Ex.mk 5 (opF (Kd7 ts st (Kdx k)).1) ⟨#[]⟩ [l,(K3 ts f (.level (k+1)) (Kd7 ts st (Kdx k)).2).1]).OK:=ok2 (i0 5 (by omega) (by omega)) (Kn2 _) Keh hnt (ih _ _ trivial);rw [K3];split
   ·exact hnt
   ·split
    ·exact hb
    ·exact ih _ _ hb
  | unary=>
   rw [K3];split
   ·exact ok1 (i0 4 (by omega) (by omega)) (j0 1 (by omega) (by omega)) Keh (ih _ _ trivial)
   ·split
    ·exact ok1 (i0 4 (by omega) (by omega)) (j0 2 (by omega) (by omega)) Keh (ih _ _ trivial)
    ·exact ih _ _ trivial
  | factor=>rw [K3];exact ih _ _ (ih _ _ trivial)
  | floop x=>
   rw [K3];split
   ·exact ih _ _ (ok1 (i0 8 (by omega) (by omega)) (j0 0 (by omega) (by omega)) (Kfn h _) hnt)
   ·split
    ·exact ih _ _ (ok1 (i0 9 (by omega) (by omega)) (j0 0 (by omega) (by omega)) (Kfn h _) hnt)
    ·exact hnt
  | atom=>
   rw [K3];split
   ·exact ok0 (i0 1 (by omega) (by omega)) (Kjr h _ _).2 Keh
   ·split
    ·exact ok0 (i0 2 (by omega) (by omega)) (j0 1 (by omega) (by omega)) Keh
    ·split
     ·exact ok0 (i0 2 (by omega) (by omega)) (j0 0 (by omega) (by omega)) Keh
     ·split
      ·exact ih _ _ trivial
      ·split
       ·exact ok3 (i0 6 (by omega) (by omega)) (j0 0 (by omega) (by omega)) Keh (ih _ _ trivial) (ih _ _ trivial) (ih _ _ trivial)
       ·split
        ·exact ok2 (i0 10 (by omega) (by omega)) (j0 0 (by omega) (by omega)) (Kfn h _) (ih _ _ trivial) (ih _ _ trivial)
        ·exact ok0 (i0 3 (by omega) (by omega)) (j0 0 (by omega) (by omega)) (Kfn h _)
theorem Ki0 (h:Kge ts) (st:St):Jmh (Kec ts st).1:=by
 unfold Kec;simp only
 split
 ·exact⟨Kfn h _,⟨by simp,by simp⟩,⟨by simp,by simp⟩,Keh⟩
 ·exact⟨Kfn h _,⟨by simp,by simp⟩,⟨by simp,by simp⟩,Keh⟩
theorem Kii (h:Kge ts):∀f l st,(∀v∈l,Jmh v)->(∀v∈(Ke4 ts f l st).1,Jmh v)/\(Ke4 ts f l st).1.length<=l.length+f
 | 0,l,st,hl=>⟨hl,Nat.le_refl _⟩
 | f+1,l,st,hl=>by
  rw [Ke4]
  split
  ·have:=Kii h f (l ++ [(Kec ts (Kc6 ts st ⟨#[59]⟩)).1]) (Kec ts (Kc6 ts st ⟨#[59]⟩)).2 (fun v hv=>by
    rcases List.mem_append.1 hv with hv|hv
    ·exact hl v hv
    ·rw [List.mem_singleton.1 hv];exact Ki0 h _)
   exact⟨this.1,by have:=this.2;simp at this;omega⟩
  ·exact⟨hl,by simp⟩
theorem Kf0 (h:Kge ts) (st:St):(∀v∈(Ker ts st).1,Jmh v)/\(Ker ts st).1.length<=ts.length+2:=by
 unfold Ker;simp only
 split
 ·exact⟨by simp,by simp⟩
 ·have:=Kii h (ts.length+1) [(Kec ts (Kda ts st ⟨#[40]⟩)).1] (Kec ts (Kda ts st ⟨#[40]⟩)).2 (fun v hv=>by rw [List.mem_singleton.1 hv];exact Ki0 h _);exact⟨this.1,by have:=this.2;simp at this;simp;omega⟩
theorem Kl7 (h:Kge ts) (st:St):Jmh (Kez ts st).1:=by
 have hd:=Ki0 h st;unfold Kez;simp only
 split
 ·exact⟨hd.1,hd.2.1,⟨by simp,by simp⟩,Kfn h _⟩
 ·split
  ·exact⟨hd.1,hd.2.1,⟨by simp,by simp⟩,Kfn h _⟩
  ·exact hd
theorem Ki7 (h:Kge ts):∀f l st,(∀v∈l,Jmh v)->(∀v∈(Kfj ts f l st).1,Jmh v)/\(Kfj ts f l st).1.length<=l.length+f
 | 0,l,st,hl=>⟨hl,Nat.le_refl _⟩
 | f+1,l,st,hl=>by
  rw [Kfj]
  split
  ·exact⟨hl,by simp⟩
  ·split
   ·exact⟨hl,by simp⟩
   ·have:=Ki7 h f (l ++ [(Kez ts st).1]) (Kez ts st).2 (fun v hv=>by
     rcases List.mem_append.1 hv with hv|hv
     ·exact hl v hv
     ·rw [List.mem_singleton.1 hv];exact Kl7 h _)
    exact⟨this.1,by have:=this.2;simp at this;omega⟩
theorem Knt (h:Kge ts):(Kew ts).1.name.size<=maxLen/\(∀v∈(Kew ts).1.ins,Jmh v)/\(∀v∈(Kew ts).1.outs,Jmh v)/\(∀v∈(Kew ts).1.locals,Jmh v)/\(Kew ts).1.ins.length<=ts.length+2/\(Kew ts).1.outs.length<=ts.length+2/\(Kew ts).1.locals.length<=ts.length+2:=by
 unfold Kew;simp only
 split
 ·have:=Ki7 h (ts.length+1) [(Kez ts (Kc6 ts (Kda ts (Ker ts (Kda ts (Ker ts (Kdn ts (Kda ts ⟨0,false⟩ ⟨#[110,111,100,101]⟩)).2).2 ⟨#[114,101,116,117,114,110,115]⟩)).2 ⟨#[59]⟩) ⟨#[118,97,114]⟩)).1] (Kez ts (Kc6 ts (Kda ts (Ker ts (Kda ts (Ker ts (Kdn ts (Kda ts ⟨0,false⟩ ⟨#[110,111,100,101]⟩)).2).2 ⟨#[114,101,116,117,114,110,115]⟩)).2 ⟨#[59]⟩) ⟨#[118,97,114]⟩)).2 (fun v hv=>by rw [List.mem_singleton.1 hv];exact Kl7 h _);exact⟨Kfn h _,(Kf0 h _).1,(Kf0 h _).1,this.1,(Kf0 h _).2,(Kf0 h _).2,by have:=this.2;simp at this;simp;omega⟩
 ·exact⟨Kfn h _,(Kf0 h _).1,(Kf0 h _).1,by simp,(Kf0 h _).2,(Kf0 h _).2,by simp⟩
theorem Knf (h:Kge ts) (st:St):∀x s,Kem ts st=some (x,s)->x.OK:=by
 have lit:∀m st x s,Kfx ts m st=some (x,s)->x.OK:=by
  intro m st x s hx;unfold Kfx at hx
  split at hx
  ·cases hx;exact ok0 ⟨by simp,by simp⟩ (Kmu h _) Keh
  ·split at hx
   ·cases hx
   ·split at hx
    ·cases hx;exact ok0 ⟨by simp,by simp⟩ ⟨by simp,by simp⟩ Keh
    ·split at hx
     ·cases hx;exact ok0 ⟨by simp,by simp⟩ ⟨by simp,by simp⟩ Keh
     ·cases hx
 intro x s hx;unfold Kem at hx
 split at hx
 ·cases hx
 ·rename_i y s1 hy;have hy:=lit _ _ _ _ hy
  split at hx
  ·cases hx
   split
   ·exact ok1 ⟨by simp,by simp⟩ ⟨by simp,by simp⟩ Keh hy
   ·exact hy
  ·cases hx
theorem Kk4 {a:ByteArray} {b:Int} {c d:Ex} (h1:a.size<=maxLen) (h2:0<=b/\b<=2) (h3:c.OK) (h4:d.OK):Jtj ⟨a,b,c,d⟩:=⟨h1,⟨by simp;omega,by simp;omega⟩,h3,h4⟩
attribute [local irreducible] Kfc K3 Kdn Kda Kc6 Kc5 Kem in
theorem Kkm (h:Kge ts) (st:St):Jtj (Kdt ts st).1:=by
 have hn:=Kfn h st;have hp:=fun s=>Kmz h (Kfc ts) .expr s trivial;have hf:=Knf h;unfold Kdt;generalize K3 ts (Kfc ts) .expr=P at *;generalize Kdn ts st=n at *;simp only
 split
 ·exact Kk4 hn (by omega) Kix (hp _)
 ·cases hx:Kem ts (Kda ts n.2 ⟨#[61]⟩) with
  | none=>
   exact Kk4 hn (by omega) Kix (hp _)
  | some y=>
   obtain⟨x,s⟩:=y;exact Kk4 hn (by omega) (hf _ x s hx) (hp _)
theorem Kky (h:Kge ts) (fin:Int):∀f l st,(∀q∈l,Jtj q)->(∀q∈(Kd8 ts fin f l st).1,Jtj q)/\(Kd8 ts fin f l st).1.length<=l.length+f
 | 0,l,st,hl=>⟨hl,Nat.le_refl _⟩
 | f+1,l,st,hl=>by
  rw [Kd8]
  split
  ·exact⟨hl,by simp⟩
  ·split
   ·exact⟨hl,by simp⟩
   ·split
    ·exact⟨hl,by simp⟩
    ·split
     ·exact⟨hl,by simp⟩
     ·have:=Kky h fin f (l ++ [(Kdt ts st).1]) (Kdt ts st).2 (fun v hv=>by
       rcases List.mem_append.1 hv with hv|hv
       ·exact hl v hv
       ·rw [List.mem_singleton.1 hv];exact Kkm h _)
      exact⟨this.1,by have:=this.2;simp at this;omega⟩
end
theorem Kje (s:ByteArray):Ke5 (Kdm s).1/\(Kdm s).1.ins.length<=1000000/\(Kdm s).1.outs.length<=1000000/\(Kdm s).1.locals.length<=1000000/\(Kdm s).1.eqs.length<=1000000:=by
 have hz:Ke5 prZ:=⟨Keh,by simp [prZ],by simp [prZ],by simp [prZ],by simp [prZ]⟩;have hz':Ke5 prZ/\prZ.ins.length<=1000000/\prZ.outs.length<=1000000/\prZ.locals.length<=1000000/\prZ.eqs.length<=1000000:=⟨hz,by simp [prZ],by simp [prZ],by simp [prZ],by simp [prZ]⟩;obtain⟨h1,h2⟩:=Kmt s;have h3:=Knt (ts:=(Kdk s).1) h1;have h4:=Kky (ts:=(Kdk s).1) h1 s.size ((Kdk s).1.length+1) [] (Kew (Kdk s).1).2 (by simp);unfold Kdm;simp only
 split
 ·exact hz'
 ·split
  ·exact hz'
  ·split
   ·exact hz'
   ·have:=h4.2;simp at this;exact⟨⟨h3.1,h3.2.1,h3.2.2.1,h3.2.2.2.1,h4.1⟩,by have:=h3.2.2.2.2.1;simp;omega,by have:=h3.2.2.2.2.2.1;simp;omega,by have:=h3.2.2.2.2.2.2;simp;omega,by simp;omega⟩
section
variable {ts:List Tk} {p:Nat}
theorem Kg1 (s:ByteArray):Kc5 ts ⟨p,true⟩ s=false:=by simp [Kc5,Kc7]
theorem Kid (s:ByteArray):Kda ts ⟨p,true⟩ s=⟨p,true⟩:=by simp [Kda,Kg1]
theorem Km9:Kdn ts ⟨p,true⟩=(⟨#[]⟩,⟨p,true⟩):=by simp [Kdn,Kdy,Kc7,tkZ]
theorem Knn:(Kec ts ⟨p,true⟩).2=⟨p,true⟩:=by simp [Kec,Km9,Kid,Kg1]
theorem Kks:∀f l,(Ke4 ts f l ⟨p,true⟩).2=⟨p,true⟩
 | 0,_=>rfl
 | f+1,l=>by rw [Ke4,Kg1];rfl
theorem Kl6:(Ker ts ⟨p,true⟩).2=⟨p,true⟩:=by simp [Ker,Kid,Kg1,Knn,Kks]
end
def Kic:ByteArray:=⟨#[110,111,100,101]⟩
theorem Klt:Kdm Kic=(prZ,16,4):=by
 have hx:LX [110,111,100,101] [tW [110,111,100,101]]:=by
  have:=Kgh (b:=[110,111,100,101]) (Kd5 (by decide)) ⟨_,_,rfl,by decide⟩ (by decide) (r:=[]) (l:=[]) (fun d hd=>by simp at hd) LX.nil;simpa using this
 obtain⟨ts,h1,h2⟩:=Kib hx (by decide);have hs:Kdk Kic=(ts,0,0):=h1;have a0:At ts 0 [tW [110,111,100,101]]:=h2;have n1:ts[1]?=none:=a0.next.none;have hn:Kdn ts ⟨0+1,false⟩=(⟨#[]⟩,⟨1,true⟩):=by simp [Kdn,Kdy,Kc7,n1,tkZ]
 have hh:(Kew ts).2=⟨1,true⟩:=by
  unfold Kew;simp only [Kea a0 (s:=⟨#[110,111,100,101]⟩) (by rw [Kdi];decide),hn,Kl6,Kid,Kg1];simp
 have he:∀fin f,Kd8 ts fin (f+1) [] ⟨1,true⟩=([],0,0,⟨1,true⟩):=fun fin f=>by rw [Kd8];simp
 unfold Kdm;rw [hs];simp only [hh,he];simp [Ke6,n1,Kic];rfl
def Khl:ByteArray:=⟨#[110,111,100,101,32,102,32,40,41,32,114,101,116,117,114,110,115,32,40,121,32,58,32,105,110,116,41,59,32,108,101,116,32,121,32,61,32,49,59,32,116,101,108]⟩
def prK:Pr:=⟨⟨#[102]⟩,[],[⟨⟨#[121]⟩,1,0,⟨#[]⟩⟩],[],[⟨⟨#[121]⟩,0,Ex.zero,.mk 1 1 ⟨#[]⟩ []⟩]⟩
theorem Khi {c:UInt8} (h:Zh (c.toNat:Int)=true):Kz (mkB [c])=true:=by
 have am:c.toNat<128:=by
  simp only [Zh,decide_eq_true_eq] at h;omega
 have dV:Q5 (c.toNat:Int)=true:=by simp [Q5,h]
 have hs:=Kgs Q5 [] (by simp) [c] [] (by simpa using ⟨am,dV⟩) 2 (by simp);simp only [List.nil_append,List.append_nil,List.length_nil,List.length_singleton,Nat.zero_add] at hs;have hz:(mkB [c]).size=1:=by rw [Kd2];rfl
 have hg:∀h:0<(mkB [c]).size,(mkB [c])[0]'h=c:=fun h=>by rw [Kh4];rfl
 unfold Kz;rw [dif_pos (by rw [hz];omega),hg,hz,hs,h];simp [Jdo,Kc9]
theorem Knu:Qw prK=true:=by
 have hy:Kz ⟨#[121]⟩=true:=Khi (c:=121) (by decide);have hf:Kz ⟨#[102]⟩=true:=Khi (c:=102) (by decide);have he:Kz ⟨#[]⟩=false:=rfl
 have hr:(Ex.mk 1 1 ⟨#[]⟩ []).right=0:=by
  rw [Ex.right_zero];refine⟨by simp [Ex.count,Ex.countL],by simp [Ex.depth,Ex.depthL],?_⟩;simp [Ex.formed,Ex.formedL,Jl,Jw,he]
 simp [Qw,prK,hy,hf,Ke,eqB,hr,Ex.zero,Ex.same,Ex.kind,Ex.n,Ex.name,Ex.sub,Ex.sameL]
theorem Knz:Kdm Khl=(prK,0,0):=by
 have hx:LX Khl.toList (Kgz prK):=by
  have hy:Kz ⟨#[121]⟩=true:=Khi (c:=121) (by decide);have hf:Kz ⟨#[102]⟩=true:=Khi (c:=102) (by decide);have ly:(ByteArray.mk #[121]).toList = [121]:=Kc9 [121];have lf:(ByteArray.mk #[102]).toList = [102]:=Kc9 [102];have d1:Jgk 1 = [49]:=by decide
  have t:LX [116,101,108] [tW [116,101,108]]:=by
   have:=Kgh (b:=[116,101,108]) (Kd5 (by decide)) ⟨_,_,rfl,by decide⟩ (by decide) (r:=[]) (l:=[]) (fun d hd=>by simp at hd) LX.nil;simpa using this
  have t1:=LX.num (n:=1) (by decide) (by decide) Sep.semi.stop (LX.alone (c:=59) (by decide) (by decide) t.sp);have t2:=LX.name hy Sep.blank.stop (LX.equ t1).sp;have t3:=kwL (b:=[108,101,116]) (Kd5 (by decide)) ⟨_,_,rfl,by decide⟩ (by decide) t2;have t4:=LX.alone (c:=41) (by decide) (by decide) (LX.alone (c:=59) (by decide) (by decide) t3.sp);have t5:=Kgh (b:=[105,110,116]) (Kd5 (by decide)) ⟨_,_,rfl,by decide⟩ (by decide) Sep.shut.stop t4;have t6:=LX.name hy Sep.blank.stop (LX.sp (LX.alone (c:=58) (by decide) (by decide) t5.sp));have t7:=kwL (b:=[114,101,116,117,114,110,115]) (Kd5 (by decide)) ⟨_,_,rfl,by decide⟩ (by decide) (LX.alone (c:=40) (by decide) (by decide) t6);have t8:=LX.name hf Sep.blank.stop (LX.sp (LX.alone (c:=40) (by decide) (by decide) (LX.alone (c:=41) (by decide) (by decide) t7.sp)));have t9:=kwL (b:=[110,111,100,101]) (Kd5 (by decide)) ⟨_,_,rfl,by decide⟩ (by decide) t8;rw [ly,lf,d1] at t9;rw [show Khl.toList = [110,111,100,101,32,102,32,40,41,32,114,101,116,117,114,110,115,32,40,121,32,58,32,105,110,116,41,59,32,108,101,116,32,121,32,61,32,49,59,32,116,101,108] from Kc9 _];simpa [Kgz,prK,Kev,Kft,Kek,Kfs,Kfv,eqT,Kgc,Ex.toks,Kdj] using t9
 obtain⟨ts,h1,h2⟩:=Kib hx (by rw [show Khl.toList=_ from Kc9 _];decide);rw [Khs] at h1;obtain⟨st,h3,h4⟩:=Kh1 Knu Khl.size h2;unfold Kdm;rw [h1];simp only [h3,h4];simp
end Go.Proofs.YtdgjplldlfeolaaGreatDoor
