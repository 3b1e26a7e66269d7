/- Lemmas. -/
import Derived.Test.YtdgjplldlfeolaaGreatDoorMac
import Derived.Test.YtdgjplldlfeolaaGreatDoorY12
import Derived.Test.YtdgjplldlfeolaaGreatDoorY13
import Derived.Test.YtdgjplldlfeolaaGreatDoorY00
import Derived.Laws.OwnMore
import Derived.Test.YtdgjplldlfeolaaGreatDoorY02
set_option linter.unusedVariables false
set_option linter.unusedSimpArgs false
set_option maxRecDepth 100000
set_option maxHeartbeats 64000000
namespace Go.Proofs.YtdgjplldlfeolaaGreatDoor
open Go.RowKit Go.Sort
theorem Ju4 {op N:Int} (h:Qj (op,N)=0) (hN:I32 N):Qp op=4/\op=1\/Qp op=2/\(Xh N:Int)=N/\N<=65535\/Qp op=1/\(Xh N:Int)=N/\N<=255:=by
 unfold I32 at hN;unfold Qj at h;dsimp only at h;unfold Xh
 by_cases h0:Qp op=0
 ·rw [if_pos h0] at h;exact absurd h Ug
 rw [if_neg h0] at h
 by_cases h4:Qp op=4
 ·left
  refine⟨h4,?_⟩;unfold Qp at h4
  repeat' split at h4
  all_goals omega
 rw [if_neg h4] at h
 by_cases h8:op=8/\(N<1\/2<N)
 ·rw [if_pos h8] at h;exact absurd h Ug
 rw [if_neg h8] at h
 by_cases h9:op=9/\(N<1\/16<N)
 ·rw [if_pos h9] at h;exact absurd h Ug
 rw [if_neg h9] at h
 by_cases h2:Qp op=2/\(N<0\/65535<N)
 ·rw [if_pos h2] at h;exact absurd h Ug
 rw [if_neg h2] at h
 by_cases h1:Qp op=1/\(N<0\/255<N)
 ·rw [if_pos h1] at h;exact absurd h Ug
 have hw:=Jlt op
 have h3:Qp op≠3:=by
  unfold Qp
  repeat' split
  all_goals omega
 exact Ua
theorem Jka (W:World) (c:Array Value) (t:TypeId) {u:Int} (hc:c = #[.int .u8 u]):Qc (W.alloc (.cells c t)) (byU [u]) 1 (some ⟨W.heap.size,0,none⟩) 1:=by
 subst hc;refine⟨Ns _,Uo,rfl,fun _=>⟨W.heap.size,0,rfl,fun j u hj=>?_⟩⟩;rw [Nat.zero_add,Kw];simpa [byU] using hj
theorem Js5 (op N:Int) (w:World) (h:Qj (op,N)=0) (hN:I32 N) (jf:1<=op/\op<=11) :
  Calls Tryz.prog 98 #[.agg #[.int .i64 op,.int .i32 N]] w (Y8 w (Jdm (op,N))):=by
 have aB:=fun w=>Jlr op N w;unfold Jby at aB;rw [h] at aB
 have ky:IntKind.u8.wrap op=op:=by
  exact Ub5
 have dS:=Jne N
 have nL:IntKind.u64.wrap ((Xh N:Nat):Int)=((Xh N:Nat):Int):=by
  exact Ub5
 have iF:∀(g:Nat) (W:World),Qc W (byU [op]) 1 (some ⟨g,0,none⟩) 1->Calls Tryz.prog 59 #[.slice (some ⟨g,0,none⟩) 1 1,.int .i64 (Qp op),.int .u64 (Xh N:Nat)] W (Y8 W (Jdm (op,N))):=by
  intro g W hc;unfold Jdm
  rcases Ju4 h hN with ⟨h1,_⟩|⟨h1,h2,h3⟩|⟨h1,h2,h3⟩
  ·dsimp only;rw [h1];exact Jnb [op] (some ⟨g,0,none⟩) 1 (Xh N) W hc Uh Ua
  ·dsimp only;rw [h1];exact Jig [op] (some ⟨g,0,none⟩) 1 (Xh N) W hc Uh Ua
  ·dsimp only;rw [h1];exact Jm0 [op] (some ⟨g,0,none⟩) 1 (Xh N) W hc Uh Ua
 have kT:=Nf iF;have cO:=fun W=>Jdz op W;have mh:=fun W=>Jln N W;generalize Jdm (op,N)=bs at *;clear h hN iF;unfold Y8
 go_enter Tryz.func98,Tryz.ntmps98
 go_wp2_with (first|(go_at_call 95;refine mo (aB _) fun w1 ac ak af bV=>?_;(try simp at af)))
 refine Jo fun W0 ag=>?_;have q0:=Na W0 w.heap.size 0 op Uf;have q1:=Nb W0 w.heap.size 1 (.int .i32 N) Uf;have aC:=Nd w W0 Uz;have hz:=aC.size;have su:=Nu q0;clear ag;have hS:∀w',Below W0.heap.size W0 w'->w'.cell? ⟨w.heap.size,0,none⟩=some (.int .i64 op)/\w'.cell? ⟨w.heap.size,1,none⟩=some (.int .i32 N):=fun w' hb=>⟨Ja hb q0,Ja hb q1⟩;have HS:=Nf hS;have ar:=hS W0.drew (Jh (Nt));have lA:Below W0.heap.size W0 W0.drew:=Jh (Nt);have hds:W0.drew.heap.size=W0.heap.size:=rfl;clear hS q0 q1 su;refine Kd (fun w'=>w'.cell? ⟨w.heap.size,0,none⟩=some (.int .i64 op)/\w'.cell? ⟨w.heap.size,1,none⟩=some (.int .i32 N)) 14 2 Ue Gp ?_;simp only [List.size_toArray,Nl,Nm,Nat.zero_add,Nat.reduceAdd];refine Ji 0 ar ?_;refine Ji 1 ar ?_;refine Ji 2 ar ?_;refine Ji 4 ar ?_;refine Ji 5 ar ?_;refine Ji 7 ar ?_;refine Ji 8 ar ?_;refine Jfe (i:=3) (j:=6) Ue Ul Ul rfl rfl ?_ ?_
 ·refine Jj fun K hK=>?_;go_simp;refine hK _ _ ⟨HS.out _ (Jh (Jc (Nt) _)),?_⟩;clear hK K
  try simp only [Act.put,sa1,sa2,sa3]
  refine Kb 6 ?_;refine Jj fun K hK=>?_;go_simp;refine(cO _).mono ?_;rintro r wf ⟨rfl,bZ⟩;dsimp only;have cT:=Nd W0 wf (Jd (Jh (Jc (Nt) _)) bZ);refine hK _ _ ⟨HS.out wf cT,?_⟩;clear hK K
  try simp only [Act.put,sa1,sa2,sa3]
  have hcel:Qc wf (byU [op]) 1 (some ⟨W0.heap.size,0,none⟩) 1:=((Jka W0 #[.int .u8 op] 5 rfl).later (Jh (Nt))).later bZ;refine Kb 9 ?_;refine Jj fun K hK=>?_;go_simp;refine(mh _).mono ?_;rintro r wp ⟨rfl,tF⟩;dsimp only;subst tF;refine hK _ _ ⟨HS.out _ cT,?_⟩;clear hK K
  try simp only [Act.put,sa1,sa2,sa3]
  have dr:=HS.out _ cT;refine Ji 10 dr ?_;refine Kb 11 ?_;refine Jj fun K hK=>?_;go_simp;refine(kT.out _ _ hcel).mono ?_;rintro r wz ⟨⟨v,rfl,ae⟩,gt⟩;dsimp only;have cF:=Nd W0 wz (Jd cT gt);refine hK _ _ ⟨HS.out wz cF,?_⟩;clear hK K
  try simp only [Act.put,sa1,sa2,sa3]
  have eI:=cT.size;have dk:=HS.out wz cF;refine Ji 12 dk ?_;refine Ji 13 dk ?_;refine Kh Ue ?_;refine Qx 14 ?_;refine Jj fun K hK=>?_;go_simp;refine hK _ _ ?_;clear hK K
  try simp only [Act.put,sa1,sa2,sa3]
  refine Qx 15 ?_;refine Jj fun K hK=>?_;go_simp;refine hK _ _ ?_;clear hK K
  try simp only [Act.put,sa1,sa2,sa3]
  refine Ki Ue ?_;have jh:=Nd w wz (Jd aC cF);have fN:=K8 ae (show w.heap.size<=_ by first|omega|(simp;omega));clear ar dr dk kT
  go_wp2_with fail
  go_ret2
  exact⟨⟨_,rfl,fN⟩,jh⟩
 ·refine Jj fun K hK=>?_;go_simp;refine(cO _).mono ?_;rintro r wf ⟨rfl,bZ⟩;dsimp only;have cT:=Nd W0 wf (Jd lA bZ);refine hK _ _ ⟨HS.out wf cT,?_⟩;clear hK K
  try simp only [Act.put,sa1,sa2,sa3]
  have dr:=HS.out _ cT;have eI:=cT.size;refine Jfe (i:=3) (j:=9) Ue Ul Ul rfl rfl ?_ ?_
  ·refine Jj fun K hK=>?_;go_simp;refine hK _ _ ⟨HS.out _ (Jc cT _),?_⟩;clear hK K
   try simp only [Act.put,sa1,sa2,sa3]
   refine Kb 9 ?_;refine Jj fun K hK=>?_;go_simp;refine(mh _).mono ?_;rintro r wp ⟨rfl,tF⟩;dsimp only;subst tF;refine hK _ _ ⟨HS.out _ (Jc cT _),?_⟩;clear hK K
   try simp only [Act.put,sa1,sa2,sa3]
   refine Ji 10 (HS.out _ (Jc cT _)) ?_;exact T4
  ·refine Jj fun K hK=>?_;go_simp;refine(mh _).mono ?_;rintro r wp ⟨rfl,tF⟩;dsimp only;subst tF;refine hK _ _ ⟨HS.out _ cT,?_⟩;clear hK K
   try simp only [Act.put,sa1,sa2,sa3]
   refine Ji 10 dr ?_;refine Kb 3 ?_;refine Jj fun K hK=>?_;go_simp;refine hK _ _ ⟨HS.out _ (Jc cT _),?_⟩;clear hK K
   try simp only [Act.put,sa1,sa2,sa3]
   exact T4
theorem Kg2 {s:ByteArray} (h:0<s.size):Kgi s=(s[0].toNat:Int):=by unfold Kgi;rw [dif_pos h]
theorem Kj6 (s:ByteArray) (W:World) (h0:0<s.size) (hs:s.size<=1000000) (hl:Zh (s[0].toNat:Int)=true) :
  Calls Tryz.prog 36 #[.string s] W fun r w'=>r = .returned (.tuple #[tkV (Kdg s).1,.int .i64 (Kdg s).2])/\Below W.heap.size W w':=by
 have hb:s[0].toNat<256:=UInt8.toNat_lt _
 have hv:Kdg s=if Jdo (Kc8 Q5 s)=true then(⟨3,Kc8 Q5 s,0,0⟩,0) else if 16<(Kc8 Q5 s).size then(⟨1,Kc8 Q5 s,0,0⟩,3) else(⟨1,Kc8 Q5 s,0,0⟩,0):=by
  unfold Kdg;rw [Kg2 h0,if_pos hl]
 have hh:=fun w=>Jsk s w Uo
 change ∀w,Calls Tryz.prog 74 #[.string s,.func (.func 78) #[] #[]] w fun r w'=>r = .returned (.string (Kc8 Q5 s))/\Below w.heap.size w w' at hh
 have nn:=Kgd Q5 s;generalize Kc8 Q5 s=n at hh hv nn;have am:=fun w=>Jkp (s[0].toNat:Int) w;rw [hl] at am;have hwd:=fun w=>Jwp n w;generalize Kdg s=V at hv ⊢
 cases hw:Jdo n
 ·rw [hw,if_neg Uh] at hv;rw [hw] at hwd
  by_cases h16:16<n.size
  ·rw [if_pos h16] at hv;have d1:decide (16<(n.size:Int))=true:=Ui;have HV:=Nf hv;clear hv
   go_enter Tryz.func36,Tryz.ntmps36
   go_wp2_with (first
    | (go_at_call 77;refine(am _).mono ?_;rintro r w0 ⟨rfl,rfl⟩)
    | (go_at_call 74;go_loud (refine(hh _).mono ?_;rintro r w1 ⟨rfl,ac⟩;have af:=ac.size;(try simp at af);have bV:=lt0 W w1;have ak:=Jg ac;have db:=Jf ac;have z0:=Na w1 W.heap.size 0 0 ((ak _ _ Uh).trans Uc);have z1:=Nb w1 W.heap.size 1 (.string ⟨#[]⟩) ((ak _ _ Uh).trans Uc);have z2:=Nb w1 W.heap.size 2 (.int .i32 0) ((ak _ _ Uh).trans Uc);have z3:=Na w1 W.heap.size 3 0 ((ak _ _ Uh).trans Uc);have zf:∀o,w1.frozen? ⟨W.heap.size,o,none⟩=false:=fun o=>(db _ _ Uh).trans Uc))
    | (go_at_call 79;go_loud (refine(hwd _).mono ?_;rintro r w2 ⟨rfl,rfl⟩)))
   refine Nv (v:= .tuple #[tkV ⟨1,n,0,0⟩,.int .i64 3]) Vi rfl ⟨Ln,?_⟩;exact Ubz
  ·rw [if_neg h16] at hv;have d1:decide (16<(n.size:Int))=false:=Ui;have HV:=Nf hv;clear hv
   go_enter Tryz.func36,Tryz.ntmps36
   go_wp2_with (first
    | (go_at_call 77;refine(am _).mono ?_;rintro r w0 ⟨rfl,rfl⟩)
    | (go_at_call 74;go_loud (refine(hh _).mono ?_;rintro r w1 ⟨rfl,ac⟩;have af:=ac.size;(try simp at af);have bV:=lt0 W w1;have ak:=Jg ac;have db:=Jf ac;have z0:=Na w1 W.heap.size 0 0 ((ak _ _ Uh).trans Uc);have z1:=Nb w1 W.heap.size 1 (.string ⟨#[]⟩) ((ak _ _ Uh).trans Uc);have z2:=Nb w1 W.heap.size 2 (.int .i32 0) ((ak _ _ Uh).trans Uc);have z3:=Na w1 W.heap.size 3 0 ((ak _ _ Uh).trans Uc);have zf:∀o,w1.frozen? ⟨W.heap.size,o,none⟩=false:=fun o=>(db _ _ Uh).trans Uc))
    | (go_at_call 79;go_loud (refine(hwd _).mono ?_;rintro r w2 ⟨rfl,rfl⟩)))
   refine Nv (v:= .tuple #[tkV ⟨1,n,0,0⟩,.int .i64 0]) Vi rfl ⟨Ln,?_⟩;exact Ubz
 ·rw [hw,if_pos rfl] at hv;rw [hw] at hwd;have HV:=Nf hv;clear hv
  go_enter Tryz.func36,Tryz.ntmps36
  go_wp2_with (first
   | (go_at_call 77;refine(am _).mono ?_;rintro r w0 ⟨rfl,rfl⟩)
   | (go_at_call 74;go_loud (refine(hh _).mono ?_;rintro r w1 ⟨rfl,ac⟩;have af:=ac.size;(try simp at af);have bV:=lt0 W w1;have ak:=Jg ac;have db:=Jf ac;have z0:=Na w1 W.heap.size 0 0 ((ak _ _ Uh).trans Uc);have z1:=Nb w1 W.heap.size 1 (.string ⟨#[]⟩) ((ak _ _ Uh).trans Uc);have z2:=Nb w1 W.heap.size 2 (.int .i32 0) ((ak _ _ Uh).trans Uc);have z3:=Na w1 W.heap.size 3 0 ((ak _ _ Uh).trans Uc);have zf:∀o,w1.frozen? ⟨W.heap.size,o,none⟩=false:=fun o=>(db _ _ Uh).trans Uc))
   | (go_at_call 79;go_loud (refine(hwd _).mono ?_;rintro r w2 ⟨rfl,rfl⟩)))
  refine Nv (v:= .tuple #[tkV ⟨3,n,0,0⟩,.int .i64 0]) Vi rfl ⟨Ln,?_⟩;exact Ubz
theorem Kkl (s:ByteArray) (W:World) (h0:0<s.size) (hs:s.size<=1000000) (hl:Zh (s[0].toNat:Int)=false) (hg:Jbz (s[0].toNat:Int)=true) :
  Calls Tryz.prog 36 #[.string s] W fun r w'=>r = .returned (.tuple #[tkV (Kdg s).1,.int .i64 (Kdg s).2])/\Below W.heap.size W w':=by
 have hb:s[0].toNat<256:=UInt8.toNat_lt _
 have hv:Kdg s=if (Kfw (Kc8 Jbz s)).2=true then(⟨2,Kc8 Jbz s,(Kfw (Kc8 Jbz s)).1,0⟩,0) else(⟨2,Kc8 Jbz s,0,0⟩,16):=by
  unfold Kdg;rw [Kg2 h0,if_neg (by rw [hl];simp),if_pos hg]
 have hh:=fun w=>Kli s w Uo
 change ∀w,Calls Tryz.prog 74 #[.string s,.func (.func 80) #[] #[]] w fun r w'=>r = .returned (.string (Kc8 Jbz s))/\Below w.heap.size w w' at hh
 have nn:=Kgd Jbz s;have xb:=fun w=>Knl (Kc8 Jbz s) w Uo;generalize Kfw (Kc8 Jbz s)=q at hv xb;generalize Kc8 Jbz s=n at hh hv nn xb;obtain⟨qn,qb⟩:=q;dsimp only at hv xb;have am:=fun w=>Jkp (s[0].toNat:Int) w;rw [hl] at am;have hdt:=fun w=>Ju5 (s[0].toNat:Int) w;rw [hg] at hdt;generalize Kdg s=V at hv ⊢
 cases qb
 ·rw [if_neg Uh] at hv;have HV:=Nf hv;clear hv
  go_enter Tryz.func36,Tryz.ntmps36
  go_wp2_with (first
   | (go_at_call 77;refine(am _).mono ?_;rintro r w0 ⟨rfl,rfl⟩)
   | (go_at_call 80;refine(hdt _).mono ?_;rintro r w0 ⟨rfl,rfl⟩)
   | (go_at_call 74;go_loud (refine(hh _).mono ?_;rintro r w1 ⟨rfl,ac⟩;have af:=ac.size;(try simp at af);have bV:=lt0 W w1;have ak:=Jg ac;have db:=Jf ac;have z0:=Na w1 W.heap.size 0 0 ((ak _ _ Uh).trans Uc);have z1:=Nb w1 W.heap.size 1 (.string ⟨#[]⟩) ((ak _ _ Uh).trans Uc);have z2:=Nb w1 W.heap.size 2 (.int .i32 0) ((ak _ _ Uh).trans Uc);have z3:=Na w1 W.heap.size 3 0 ((ak _ _ Uh).trans Uc);have zf:∀o,w1.frozen? ⟨W.heap.size,o,none⟩=false:=fun o=>(db _ _ Uh).trans Uc))
   | (go_at_call 81;go_loud (refine(xb _).mono ?_;rintro r w2 ⟨rfl,rfl⟩)))
  refine Nv (v:= .tuple #[tkV ⟨2,n,0,0⟩,.int .i64 16]) Vi rfl ⟨Ln,?_⟩;exact Ubz
 ·rw [if_pos rfl] at hv;have HV:=Nf hv;clear hv
  go_enter Tryz.func36,Tryz.ntmps36
  go_wp2_with (first
   | (go_at_call 77;refine(am _).mono ?_;rintro r w0 ⟨rfl,rfl⟩)
   | (go_at_call 80;refine(hdt _).mono ?_;rintro r w0 ⟨rfl,rfl⟩)
   | (go_at_call 74;go_loud (refine(hh _).mono ?_;rintro r w1 ⟨rfl,ac⟩;have af:=ac.size;(try simp at af);have bV:=lt0 W w1;have ak:=Jg ac;have db:=Jf ac;have z0:=Na w1 W.heap.size 0 0 ((ak _ _ Uh).trans Uc);have z1:=Nb w1 W.heap.size 1 (.string ⟨#[]⟩) ((ak _ _ Uh).trans Uc);have z2:=Nb w1 W.heap.size 2 (.int .i32 0) ((ak _ _ Uh).trans Uc);have z3:=Na w1 W.heap.size 3 0 ((ak _ _ Uh).trans Uc);have zf:∀o,w1.frozen? ⟨W.heap.size,o,none⟩=false:=fun o=>(db _ _ Uh).trans Uc))
   | (go_at_call 81;go_loud (refine(xb _).mono ?_;rintro r w2 ⟨rfl,rfl⟩)))
  refine Nv (v:= .tuple #[tkV ⟨2,n,qn,0⟩,.int .i64 0]) Vi rfl ⟨Ln,?_⟩;exact Ubz
theorem Klp (s:ByteArray) (W:World) (h0:0<s.size) (hs:s.size<=1000000) (hl:Zh (s[0].toNat:Int)=false) (hg:Jbz (s[0].toNat:Int)=false) :
  Calls Tryz.prog 36 #[.string s] W fun r w'=>r = .returned (.tuple #[tkV (Kdg s).1,.int .i64 (Kdg s).2])/\Below W.heap.size W w':=by
 have hb:s[0].toNat<256:=UInt8.toNat_lt _
 have hv:Kdg s=if 2<=s.size/\Kfl (s.extract 0 2)=true then(⟨4,s.extract 0 2,0,0⟩,0) else if 1<=s.size/\Kfl (s.extract 0 1)=true then(⟨4,s.extract 0 1,0,0⟩,0) else(⟨0,⟨#[]⟩,0,0⟩,15):=by
  unfold Kdg;rw [Kg2 h0,if_neg (by rw [hl];simp),if_neg (by rw [hg];simp)]
 have am:=fun w=>Jkp (s[0].toNat:Int) w;rw [hl] at am;have hdt:=fun w=>Ju5 (s[0].toNat:Int) w;rw [hg] at hdt;have cI:=fun w=>Kjh (s.extract 0 2) w;have iw:=fun w=>Kjh (s.extract 0 1) w;generalize Kfl (s.extract 0 2)=b2 at hv cI;generalize Kfl (s.extract 0 1)=b1 at hv iw;generalize Kdg s=V at hv ⊢;have HV:=Nf hv;clear hv
 go_enter Tryz.func36,Tryz.ntmps36
 go_wp2_with (first
  | (go_at_call 77;refine(am _).mono ?_;rintro r w0 ⟨rfl,rfl⟩)
  | (go_at_call 80;refine(hdt _).mono ?_;rintro r w0 ⟨rfl,rfl⟩))
 refine Jo fun W0 ag=>?_;have ab:=Nd W W0 (by rw [ag];exact Jc (Jc (Nt) _) _)
 have q0:=Na W0 (W.heap.size+1) 0 2 Uf;have q1:=Na W0 (W.heap.size+1) 1 1 Uf;have z0:=Na W0 W.heap.size 0 0 Uf;have z1:=Nb W0 W.heap.size 1 (.string ⟨#[]⟩) Uf;have z2:=Nb W0 W.heap.size 2 (.int .i32 0) Uf;have z3:=Na W0 W.heap.size 3 0 Uf;have zf:∀o,W0.frozen? ⟨W.heap.size,o,none⟩=false:=by intro o;rw [ag];go_simp
 clear ag
 go_loopw [48] (fun i wr=>∃k:Nat,k<=2/\i = .int .i64 k/\(1<=k->¬(2<=s.size/\b2=true))/\(2<=k->¬(1<=s.size/\b1=true))/\wr=W0) (fun i _=>2-(intOf i).toNat)
 case atStart=>exact⟨0,Ua,rfl,fun h=>absurd h Ua,fun h=>absurd h Ua,rfl⟩
 case round=>
  obtain⟨k,hk,rfl,ii,gL,rfl⟩:=hrel;obtain rfl|rfl|rfl:k=0\/k=1\/k=2:=Ua
  ·clear ii gL
   by_cases h2:2<=s.size
   ·have d2:decide (2<=(s.size:Int))=true:=Ui;have h2i:(2:Int)<=(s.size:Int):=Ua
    cases b2
    ·clear HV
     go_wp2_with (go_at_call 82;go_loud (refine(cI _).mono ?_;rintro r w2 ⟨rfl,rfl⟩))
     go_roundw
     case rel=>exact⟨1,Ua,rfl,fun _ h=>Lc,fun h=>absurd h Ua,Fq⟩
     case measure=>simp [intOf]
    ·have hv:=HV.out;rw [if_pos ⟨h2,rfl⟩] at hv;have bL:=Nf hv;clear HV hv
     go_wp2_with (go_at_call 82;go_loud (refine(cI _).mono ?_;rintro r w2 ⟨rfl,rfl⟩))
     refine Nv (v:= .tuple #[tkV ⟨4,s.extract 0 2,0,0⟩,.int .i64 0]) Vi rfl ⟨by rw [bL.out],?_⟩;exact Ke7 _ _ _ _ ab (Ns _)
   ·have d2:decide (2<=(s.size:Int))=false:=Ui
    go_wp2_with fail
    go_roundw
    case rel=>exact⟨1,Ua,rfl,fun _ h=>h2 h.1,fun h=>absurd h Ua,Fq⟩
    case measure=>simp [intOf]
  ·have d2:decide (1<=(s.size:Int))=true:=Ui;have h2i:(1:Int)<=(s.size:Int):=Ua;have hp:=ii Ua;clear gL ii
   cases b1
   ·clear HV;have HPP:=Nf hp;clear hp
    go_wp2_with (go_at_call 82;go_loud (refine(iw _).mono ?_;rintro r w2 ⟨rfl,rfl⟩))
    go_roundw
    case rel=>exact⟨2,Ua,rfl,fun _=>HPP.out,fun _ h=>Lc,Fq⟩
    case measure=>simp [intOf]
   ·have hv:=HV.out;rw [if_neg hp,if_pos ⟨h0,rfl⟩] at hv;have bL:=Nf hv;clear HV hv hp
    go_wp2_with (go_at_call 82;go_loud (refine(iw _).mono ?_;rintro r w2 ⟨rfl,rfl⟩))
    refine Nv (v:= .tuple #[tkV ⟨4,s.extract 0 1,0,0⟩,.int .i64 0]) Vi rfl ⟨by rw [bL.out],?_⟩;exact Ke7 _ _ _ _ ab (Ns _)
  ·have hv:=HV.out;rw [if_neg (ii Ua),if_neg (gL Ua)] at hv;have bL:=Nf hv;clear HV hv ii gL
   go_wp2_with fail
   refine Nv (v:= .tuple #[tkV ⟨0,⟨#[]⟩,0,0⟩,.int .i64 15]) Vi rfl ⟨by rw [bL.out],?_⟩;exact Ke7 _ _ _ _ ab (Ns _)
theorem Kly (s:ByteArray) (W:World) (h0:0<s.size) (hs:s.size<=1000000) :
  Calls Tryz.prog 36 #[.string s] W fun r w'=>r = .returned (.tuple #[tkV (Kdg s).1,.int .i64 (Kdg s).2])/\Below W.heap.size W w':=by
 cases hl:Zh (s[0].toNat:Int)
 ·cases hg:Jbz (s[0].toNat:Int)
  ·exact Klp s W h0 hs hl hg
  ·exact Kkl s W h0 hs hl hg
 ·exact Kj6 s W h0 hs hl
theorem Kn6:(Tryz.prog.info? 103).map (fun i=>(i.zero,i.size,i.bytes))=some (some (.agg #[.int .i64 0,.string ⟨#[]⟩,.int .i32 0,.int .i64 0]),4,40):=Ue
def tkC (t:Tk):List Value:=[.int .i64 t.kind,.string t.text,.int .i32 t.n,.int .i64 t.pos]
def Kie (l:List Tk):List Value:=l.flatMap tkC
theorem Knw (l:List Tk) (k:Nat) (t:Tk) (h:l[k]?=some t) (i:Nat) (u:Value) (hu:(tkC t)[i]?=some u):(Kie l)[k * 4+i]?=some u:=by
 induction l generalizing k with
 | nil=>simp at h
 | cons x l ih=>
  rw [Kie,List.flatMap_cons,<-Kie]
  have hi:i<4:=by
   have:=(Nh hu).1;simpa [tkC] using this
  cases k with
  | zero=>
   simp at h;subst h;rw [List.getElem?_append_left (by simp [tkC];omega)];simpa using hu
  | succ k=>
   rw [List.getElem?_append_right (by simp [tkC];omega)];have ai:(tkC x).length=4:=rfl;rw [ai,show(k+1) * 4+i-4=k * 4+i from by omega];exact ih k Vl
theorem Kns {w:World} {base:Nat} {e:TypeId} {l:List Tk} {A:Option Addr} {cap:Nat} (h:w.ownsRow base e 4 (.slice A l.length cap) l.length (Kie l)):Kg5 w.heap.size w l A cap:=by
 rcases Nat.eq_zero_or_pos l.length with h0|h0
 ·exact Ubk
 ·obtain⟨g,c',hv,hg,am,h1,h2,hc⟩:=Kc h h0;injection hv with e1 e2 e3;subst e1 e3;refine⟨h1,h2,fun _=>⟨g,0,rfl,am,fun k t hk=>?_⟩⟩;have ha:=fun i u hu=>hc _ _ (Knw l k t hk i u hu);exact Ub1
theorem Kjb (p:Int->Bool) {s:ByteArray} (h:0<s.size) (hp:p ((Utf8.decode s 0).1:Int)=true):1<=(Kc8 p s).size:=by
 have h1:1<=Zb p s (s.size+1) 0:=by
  rw [Zb,if_pos h,if_pos hp];have h2:=Jqv s 0
  rcases Nat.lt_or_ge (0+(Utf8.decode s 0).2) (s.size+1) with h3|h3
  ·have:=Khb p s s.size (0+(Utf8.decode s 0).2) Ua;exact Ua
  ·cases hs:s.size with
   | zero=>omega
   | succ f=>rw [hs] at h3;rw [Zb,if_neg Ua];omega
 unfold Kc8;rw [ByteArray.size_extract];exact Ua
theorem Kls {s:ByteArray} (h0:0<s.size) (h:(Kdg s).2=0):1<=(Kdg s).1.text.size:=by
 have ascii:∀c:UInt8,s[0]=c->c.toNat<128->Utf8.decode s 0=(c.toNat,1):=fun c hc am=>by
  rw [decode_ascii s 0 h0 (by rw [hc];exact am),hc]
 unfold Kdg at h ⊢;rw [Kg2 h0] at h ⊢
 by_cases hl:Zh (s[0].toNat:Int)=true
 ·have h1:1<=(Kc8 Q5 s).size:=Kjb Q5 h0 (by
   have am:s[0].toNat<128:=by simp only [Zh,decide_eq_true_eq] at hl;omega
   rw [ascii _ rfl am];simp [Q5,hl])
  rw [if_pos hl]
  split
  ·exact h1
  ·split <;> exact h1
 ·rw [if_neg hl] at h ⊢
  by_cases hd:Jbz (s[0].toNat:Int)=true
  ·have h1:1<=(Kc8 Jbz s).size:=Kjb Jbz h0 (by
    have am:s[0].toNat<128:=by simp only [Jbz,decide_eq_true_eq] at hd;omega
    rw [ascii _ rfl am];exact hd)
   rw [if_pos hd]
   split <;> exact h1
  ·rw [if_neg hd] at h ⊢
   by_cases h2:2<=s.size/\Kfl (s.extract 0 2)=true
   ·rw [if_pos h2];show 1<=(s.extract 0 2).size;rw [ByteArray.size_extract];omega
   ·rw [if_neg h2] at h ⊢
    by_cases h3:1<=s.size/\Kfl (s.extract 0 1)=true
    ·rw [if_pos h3];show 1<=(s.extract 0 1).size;rw [ByteArray.size_extract];omega
    ·rw [if_neg h3] at h;exact Lc
theorem Knr (s:ByteArray):(Kdg s).1.text.size<=s.size:=by
 have h1:=Kgd Q5 s;have h2:=Kgd Jbz s;unfold Kdg;generalize Kc8 Q5 s=a at h1 ⊢;generalize Kc8 Jbz s=b at h2 ⊢
 by_cases c1:Zh (Kgi s)=true
 ·rw [if_pos c1]
  split
  ·exact h1
  ·split <;> exact h1
 ·rw [if_neg c1]
  by_cases c2:Jbz (Kgi s)=true
  ·rw [if_pos c2]
   split <;> exact h2
  ·rw [if_neg c2]
   split
   ·show(s.extract 0 2).size<=s.size;rw [ByteArray.size_extract];omega
   ·split
    ·show(s.extract 0 1).size<=s.size;rw [ByteArray.size_extract];omega
    ·exact Np
theorem Kjg:∀f (s:ByteArray),(Kgb f s).size<=s.size
 | 0,s=>Ns _
 | f+1,s=>by
  rw [Kh8];have h1:=Kod s (Kc8 Kdh s).size
  split
  ·exact Ua
  ·split
   ·have h2:=Kjg f (Kd6 (Kd6 s (Kc8 Kdh s).size) (Kc8 Kes (Kd6 s (Kc8 Kdh s).size)).size);have h3:=Kod (Kd6 s (Kc8 Kdh s).size) (Kc8 Kes (Kd6 s (Kc8 Kdh s).size)).size;exact Ua
   ·exact Ua
theorem Kku (s:ByteArray):(Kfi s).size<=s.size:=Kjg _ s
theorem Kmc (w:World) (c:Array Value) (t:TypeId) {g:Nat} (hg:g=w.heap.size) (j:Nat):(w.alloc (.cells c t)).cell? ⟨g,j,none⟩=c[j]?:=by subst hg;exact Kw w c t j
def Kll (W:World) (x:List Tk×Int×Int) (r:Ending) (W':World):Prop:=
 (∃Al cl,r = .returned (.tuple #[.slice Al x.1.length cl,.int .i64 x.2.1,.int .i64 x.2.2])/\Kg5 W'.heap.size W' x.1 Al cl)/\Below W.heap.size W W'
theorem Kjz (s:ByteArray) (W:World) (hs:s.size<=maxLen):Calls Tryz.prog 16 #[.string s] W (Kll W (Kdk s)):=by
 unfold maxLen at hs;unfold Kdk
 by_cases dP:4096<s.size
 ·rw [if_pos dP];have d1:decide (4096<(s.size:Int))=true:=Ui
  go_enter Tryz.func16,Tryz.ntmps16
  go_wp2_with fail
  refine Nv (v:= .tuple #[.slice none 0 0,.int .i64 3,.int .i64 0]) Gr rfl ⟨⟨none,0,rfl,Ns _,Uo,fun h=>absurd h Uh⟩,Nt⟩
 ·rw [if_neg dP];have d1:decide (4096<(s.size:Int))=false:=Ui;have pp:=fun w=>Kjs s w Ua;have dS:=Kku s;generalize Kfi s=l0 at pp dS ⊢;obtain⟨R,hR⟩:∃R,R=Key s.size (s.size+1) l0 []:=⟨_,rfl⟩;rw [<-hR];have vi:=Nf hR;clear hR
  go_enter Tryz.func16,Tryz.ntmps16
  go_wp2_with (go_at_call 35;go_loud (refine(pp _).mono ?_;rintro r w1 ⟨rfl,ac⟩))
  go_loopg [5,6] (s.size+1) (fun k o lf wr=>∃out left Al cl,o = .slice Al out.length cl/\lf = .string left/\left.size<k/\out.length+left.size<=s.size/\Key s.size k left out=R/\wr.ownsRow W.heap.size 103 4 (.slice Al out.length cl) out.length (Kie out)/\Below W.heap.size W wr)
  case atStart=>exact⟨[],l0,none,0,rfl,rfl,Ua,Ui,vi.out.symm,Nw,ac⟩
  case round=>
   obtain⟨out,left,Al,cl,rfl,rfl,hk,hol,aa,ae,ab⟩:=hrel;obtain⟨k,rfl⟩:∃k,gk=k+1:=⟨gk-1,Ua⟩;rw [Key] at aa
   by_cases hz:left.size=0
   ·rw [if_pos hz] at aa;obtain rfl:left=⟨#[]⟩:=by ext1;apply Array.eq_empty_of_size_eq_zero;rw [ByteArray.size_data];exact hz
    have HR:=Nf aa;clear aa hz
    go_wp2_with fail
    refine Nv (v:= .tuple #[.slice Al out.length cl,.int .i64 0,.int .i64 0]) Gr rfl ?_;rw [<-HR.out];exact⟨⟨Al,cl,rfl,Kns ae⟩,ab⟩
   ·rw [if_neg hz] at aa;have nn:=Jfp (s:=left) Ua;have qU:=fun w=>Kly left w Ua Ua;have aP:=Kls (s:=left) Ua;have htl:=Knr left;generalize Kdg left=N at qU aP htl aa;obtain⟨⟨tk,tx,tn,tp⟩,e⟩:=N;unfold tkV at qU;dsimp only at qU aP htl aa
    by_cases he:e=0
    ·subst he;rw [if_pos rfl] at aa;have h1:=aP rfl;have dj:=Kod left tx.size;have hpc:=fun w=>Kjs (Kd6 left tx.size) w Ua;have hpl2:=Kku (Kd6 left tx.size);generalize Kfi (Kd6 left tx.size)=l2 at hpc hpl2 aa;unfold Kd6 at hpc;have hti:(tx.size:Int)<=(left.size:Int):=Ua;have hpl3:l2.size<=left.size-tx.size:=Ua;have HR:=Nf aa;clear aa aP dj hpl2
     go_wp2_with (first
      | (go_at_call 36;go_loud (refine(qU _).mono ?_;rintro r w2 ⟨rfl,aq⟩;have hwl:=ab.size;have br:=aq.size;have hownT:=Js (o:= .cells #[.int .i64 tk,.string tx,.int .i32 tn,.int .i64 ((s.size:Int)-left.size)] 103) (Js (o:= .cells #[.int .i64 tk,.string tx,.int .i32 tn,.int .i64 ((s.size:Int)-left.size)] 103) (Jy ae aq))))
      | (at_builtin;go_loud (refine Z2 rfl (.tmp 32) (.tmp 34) 60 rfl W.heap.size 103 _ 4 40 Tryz.underlying60 Kn6 rfl Ua (.slice Al out.length cl) out.length (Kie out) (w2.heap.size+1) 1 1 (tkC ⟨tk,tx,tn,(s.size:Int)-left.size⟩) rfl hownT rfl rfl (fun j u hj=>by rw [Kmc _ _ _ Uh];simpa [tkC] using hj) (by simp [tkC,Value.oneCell']) Ua Ua Ud ?_;intro v6 w6 fi ue yt;have q1:=Nb w6 w2.heap.size 1 (.string tx) (Jr (ue.block w2.heap.size Ud (fun he=>by have:=(ae.lt w2.heap.size he.symm).2;omega)) Uc)))
      | (go_at_call 35;go_loud (refine(hpc _).mono ?_;rintro r w7 ⟨rfl,hb7⟩)))
     obtain⟨A6,c6,rfl,-,-⟩:=Jv fi
     go_roundg k
     case measure=>omega
     case rel=>
      refine⟨out ++ [⟨tk,tx,tn,(s.size:Int)-left.size⟩],l2,A6,c6,Uh,rfl,Ua,Ui,HR.out,?_,?_⟩
      ·have:=Jy fi hb7;simpa [Kie] using this
      ·exact Jd (Kou (Jc (Jc (Jd ab aq) _) _) ue (fun b hb=>(ae.lt b hb).1) Ud) hb7
    ·rw [if_neg he] at aa;have hei:(e != 0)=true:=F8;have HR:=Nf aa;clear aa aP
     go_wp2_with (go_at_call 36;go_loud (refine(qU _).mono ?_;rintro r w2 ⟨rfl,aq⟩))
     go_quiet (fail)
     go_wp2_with fail
     refine Nv (v:= .tuple #[.slice none 0 0,.int .i64 e,.int .i64 ((s.size:Int)-left.size)]) Gr rfl ?_;rw [<-HR.out];exact⟨⟨none,0,rfl,Ns _,Uo,fun h=>absurd h Uh⟩,by first|exact J8 (Jc (Jd ab aq) _) _|exact Jh (Jc (Jd ab aq) _)⟩
end Go.Proofs.YtdgjplldlfeolaaGreatDoor
namespace Go.Proofs.YtdgjplldlfeolaaGreatDoor
open Go.RowKit
theorem Kpg {i:Int×Int} (h:Qj i=0):1<=i.1/\i.1<=11/\Qp i.1≠0/\(Qp i.1=1\/Qp i.1=2\/Qp i.1=4):=by
 have hw:Qp i.1≠0:=by
  intro e;unfold Qj at h;rw [if_pos e] at h;exact absurd h Ug
 have hc:(i.1=1/\Qp i.1=4)\/((i.1=10\/i.1=11)/\Qp i.1=2)\/((1<i.1/\i.1<10)/\Qp i.1=1):=by
  unfold Qp at hw ⊢
  by_cases h1:i.1=1
  ·rw [if_pos h1];exact .inl ⟨h1,rfl⟩
  rw [if_neg h1] at hw ⊢
  by_cases h2:i.1=10\/i.1=11
  ·rw [if_pos h2];exact .inr (.inl ⟨h2,rfl⟩)
  rw [if_neg h2] at hw ⊢
  by_cases h3:1<i.1/\i.1<10
  ·rw [if_pos h3];exact .inr (.inr ⟨h3,rfl⟩)
  ·rw [if_neg h3] at hw;exact absurd rfl hw
 rcases hc with ⟨h1,h2⟩|⟨h1,h2⟩|⟨h1,h2⟩
 ·exact⟨Ua,Ua,hw,.inr (.inr h2)⟩
 ·exact⟨Ua,Ua,hw,.inr (.inl h2)⟩
 ·exact⟨Ua,Ua,hw,.inl h2⟩
theorem Kst {i:Int×Int} (h:Qj i=0) (h32:I32 i.2):leN (leB (Qp i.1).toNat (Xh i.2))=Xh i.2:=by
 refine Kpm _ _ ?_;obtain⟨_,_,h0,hw⟩:=Kpg h;obtain⟨a1,a2⟩:=h32;have e:((Xh i.2:Nat):Int)=i.2 % 4294967296:=by unfold Xh;omega
 unfold Qj at h;rw [if_neg h0] at h
 rcases hw with hw|hw|hw
 ·rw [hw] at h ⊢;rw [if_neg Ug] at h
  split at h
  ·exact absurd h Ug
  split at h
  ·exact absurd h Ug
  split at h
  ·exact absurd h Ug
  split at h
  ·exact absurd h Ug
  ·show Xh i.2<256 ^ 1;omega
 ·rw [hw] at h ⊢;rw [if_neg Ug] at h
  split at h
  ·exact absurd h Ug
  split at h
  ·exact absurd h Ug
  split at h
  ·exact absurd h Ug
  ·show Xh i.2<256 ^ 2;omega
 ·rw [hw];have:=Jne i.2;show Xh i.2<256 ^ 4;omega
theorem Ksh {i:Int×Int} (h:Qj i=0):Kow (Jdm i):=by
 have:=Kpg h;intro x hx;unfold Jdm at hx
 rcases List.mem_cons.1 hx with rfl|hx
 ·exact Ua
 ·exact Ko1 _ _ x hx
theorem Kp2 {c:List (Int×Int)} (h:∀i∈c,Qj i=0):Kow (Ja7 c):=by
 intro x hx;unfold Ja7 at hx;obtain⟨i,hi,hx⟩:=List.mem_flatMap.1 hx;exact Ksh (h i hi) x hx
theorem Kqg (l:List Int):Kow (Je9 l):=by
 intro x hx;unfold Je9 at hx;obtain⟨i,hi,hx⟩:=List.mem_flatMap.1 hx;exact Ko1 _ _ x hx
theorem Kow.app {a b:List Int} (ha:Kow a) (hb:Kow b):Kow (a ++ b):=fun x hx=>(List.mem_append.1 hx).elim (ha x) (hb x)
theorem Ksg {c:List (Int×Int)} {k:Nat} {i:Int×Int} (h:c[k]?=some i):(Ja7 c).drop (Ja7 (c.take k)).length=Jdm i ++ Ja7 (c.drop (k+1)):=by
 obtain⟨am,rfl⟩:=Nh h
 have e:Ja7 c=Ja7 (c.take k) ++ (Jdm c[k] ++ Ja7 (c.drop (k+1))):=by
  conv=>lhs;rw [<-List.take_append_drop k c,No am]
  unfold Ja7;rw [List.flatMap_append,List.flatMap_cons]
 conv=>lhs;rw [e]
 simp
theorem Ksm {l:List Int} {k:Nat} {v:Int} (h:l[k]?=some v):((Je9 l).drop (4 * k)).take 4=leB 4 (Xh v):=by
 obtain⟨am,rfl⟩:=Nh h;have hl:(Je9 (l.take k)).length=4 * k:=by rw [Jsn,List.length_take];omega
 have e:Je9 l=Je9 (l.take k) ++ (leB 4 (Xh l[k]) ++ Je9 (l.drop (k+1))):=by
  conv=>lhs;rw [<-List.take_append_drop k l,No am]
  unfold Je9;rw [List.flatMap_append,List.flatMap_cons]
 conv=>lhs;rw [e]
 rw [<-hl,List.drop_left];have h4:(leB 4 (Xh l[k])).length=4:=Y4 4 _;rw [List.take_append_of_le_length Ua,List.take_of_length_le Ua]
end Go.Proofs.YtdgjplldlfeolaaGreatDoor
namespace Go.Proofs.YtdgjplldlfeolaaGreatDoor
open Go.RowKit Go.Sort Go.Maps Go.ChangeMaps Go.WideMaps
def Ko3 (P:Program) (k:TypeId) (w:World) (b n:Nat) (f:ByteArray->Option Value):Prop:=
 ∃D:DataW Value,w.ownsMap P k Jn7 b n D/\Maps.IsMap D/\
  ∀s:ByteArray,Maps.has D (.string s.data.toList)=(f s).isSome/\∀z:Value,D.atKey (.string s.data.toList) (.held z) = .held ((f s).getD z)
section
variable {P:Program} {k e:TypeId} {w w':World} {b n:Nat} {f:ByteArray->Option Value}
theorem Ko3.made (w:World):Ko3 P k (w.alloc (.map #[] 0)) w.heap.size 0 (fun _=>none):=
 ⟨.map [],World.ownsMap_made w P k _,isMap_empty,fun s=>⟨rfl,fun z=>rfl⟩⟩
theorem Ko3.keep1 (h:Ko3 P k w b n f) (hb:w'.heap[b]?=w.heap[b]?):Ko3 P k w' b n f:=by
 exact Ubv
theorem Ko3.lt (h:Ko3 P k w b n f):b<w.heap.size:=by
 exact Ub7
theorem Ko3.bel (h:Ko3 P k w b n f) (hb:Below w.heap.size w w'):Ko3 P k w' b n f:=h.keep1 (hb.block b h.lt)
theorem Kqi (hk:P.underlying k=some .string) {t:TypeId} (ht:P.underlying t=some (.map k e)) {z:Value} (hz:(zeroValue e).run P w = .ok z w) {s:ByteArray} (ae:Ko3 P k w b n f) (hs:s.size<=maxLen) {r:Value} {q:Bool} (hr:(f s).getD z=r) (hq:(f s).isSome=q) :
  (Instr.lookup t (.map (some b)) (.string s) true).run P w = .ok (.tuple #[r,.bool q]) w:=by
 obtain⟨D,h1,h2,h3⟩:=ae;obtain⟨v,ps,eH,hv⟩:=h1.look_ok (string_keyed hk) ht hz (R:=Jn7) rfl (keyOf_string_mk hk hs)
 have he:v=(f s).getD z:=by
  rw [(h3 s).2 z] at hv;exact Ubr
 rw [eH,he,hr,(h3 s).1,hq]
theorem Kpq {i:TypeId} {f:ByteArray->Option Int} (hk:P.underlying k=some .string) {t:TypeId} (ht:P.underlying t=some (.map k i)) (hi:P.underlying i=some (.int .i64)) (hz:(zeroValue i).run P w = .ok (.int .i64 0) w) {s:ByteArray} (ae:Jz P k i w b n f) (hs:s.size<=maxLen) {r:Int} {q:Bool} (hr:(f s).getD 0=r) (hq:(f s).isSome=q) :
  (Instr.lookup t (.map (some b)) (.string s) true).run P w = .ok (.tuple #[.int .i64 r,.bool q]) w:=by
 obtain⟨D,h1,h2,h3⟩:=ae;obtain⟨v,ps,eH,hv⟩:=h1.look_ok (string_keyed hk) ht hz (plainElem_int hi Ug) (keyOf_string_mk hk hs);obtain⟨c,rfl,hc,-⟩:=plainElem_int_inv hi hv;have hc':=congrArg Prod.fst hc;rw [(h3 s).2] at hc';have he:(f s).getD 0=c:=by injection hc' with hc';injection hc'
 rw [eH,<-he,hr,(h3 s).1,hq]
theorem Ktd {i:TypeId} {f:ByteArray->Option Int} (hk:P.underlying k=some .string) {t:TypeId} (ht:P.underlying t=some (.map k i)) (hi:P.underlying i=some (.int .i64)) (hz:(zeroValue i).run P w = .ok (.int .i64 0) w) {s:ByteArray} (ae:Jz P k i w b n f) (hs:s.size<=maxLen) {r:Int} (hr:(f s).getD 0=r) :
  (Instr.lookup t (.map (some b)) (.string s) false).run P w = .ok (.int .i64 r) w:=by
 obtain⟨D,h1,h2,h3⟩:=ae;obtain⟨c,eH,aY,-⟩:=h1.lookup_int (string_keyed hk) ht hi hz (keyOf_string_mk hk hs);rw [(h3 s).2] at aY;have he:(f s).getD 0=c:=Dm;rw [eH,<-he,hr]
end
structure Kq7 (w:World) (b off:Nat) (x:ByteArray×Ex) (A:Option Addr) (c:Nat):Prop where
 c0:w.cell? ⟨b,off,none⟩=some (.string x.1)
 c1:w.cell? ⟨b,off+1,none⟩=some (.int .i64 x.2.kind)
 c2:w.cell? ⟨b,off+2,none⟩=some (.int .i32 x.2.n)
 c3:w.cell? ⟨b,off+3,none⟩=some (.string x.2.name)
 c4:w.cell? ⟨b,off+4,none⟩=some (.slice A x.2.sub.length c)
 sub:Jt w x.2 A c
def stV (x:ByteArray×Ex) (A:Option Addr) (c:Nat):Value:= .agg #[.string x.1,.int .i64 x.2.kind,.int .i32 x.2.n,.string x.2.name,.slice A x.2.sub.length c]
def Ko2 (w:World) (l:List (ByteArray×Ex)) (A:Option Addr) (cap:Nat):Prop:=
 l.length<=cap/\cap<=maxLen/\(0<l.length->∃b off,A=some ⟨b,off,none⟩/\∀k x,l[k]?=some x->∃A1 c1,Kq7 w b (off+k * 5) x A1 c1)
theorem Ko2.later {w w':World} {l:List (ByteArray×Ex)} {A:Option Addr} {cap:Nat} (h:Ko2 w l A cap) (hb:Below w.heap.size w w'):Ko2 w' l A cap:=
 ⟨h.1,h.2.1,fun hl=>by
  obtain⟨b,off,hA,hr⟩:=h.2.2 hl;refine⟨b,off,hA,fun k x hk=>?_⟩;obtain⟨A1,c1,g⟩:=hr k x hk;exact⟨A1,c1,Ja hb g.c0,Ja hb g.c1,Ja hb g.c2,Ja hb g.c3,Ja hb g.c4,g.sub.later hb⟩⟩
theorem Ko2.get {w:World} {l:List (ByteArray×Ex)} {A:Option Addr} {cap k:Nat} {x:ByteArray×Ex} (h:Ko2 w l A cap) (hk:l[k]?=some x):∃b off A1 c1,A=some ⟨b,off,none⟩/\b<w.heap.size/\Kq7 w b (off+k * 5) x A1 c1:=by
 have am:k<l.length:=(Nh hk).1;obtain⟨b,off,hA,hr⟩:=h.2.2 Ua;obtain⟨A1,c1,g⟩:=hr k x hk;exact⟨b,off,A1,c1,hA,Nu g.c0,g⟩
def stC (x:ByteArray×Ex) (a:Option Addr×Nat):List Value:=[.string x.1,.int .i64 x.2.kind,.int .i32 x.2.n,.string x.2.name,.slice a.1 x.2.sub.length a.2]
def Kpp:List (ByteArray×Ex)->List (Option Addr×Nat)->List Value
 | x :: l,a :: ls=>stC x a ++ Kpp l ls
 | _,_=>[]
theorem Kqf:∀(l:List (ByteArray×Ex)) (ls:List (Option Addr×Nat)) (x:ByteArray×Ex) (a:Option Addr×Nat),ls.length=l.length->Kpp (l ++ [x]) (ls ++ [a])=Kpp l ls ++ stC x a
 | [],[],x,a,_=>by simp [Kpp]
 | y :: l,b :: ls,x,a,h=>by
  simp only [List.cons_append,Kpp,List.append_assoc];rw [Kqf l ls x a Vl]
 | [],b :: ls,x,a,h=>Lc
 | y :: l,[],x,a,h=>Lc
theorem Kq9:∀(l:List (ByteArray×Ex)) (ls:List (Option Addr×Nat)) (k:Nat) (q:ByteArray×Ex) (a:Option Addr×Nat),l[k]?=some q->ls[k]?=some a->∀(i:Nat) (u:Value),(stC q a)[i]?=some u->(Kpp l ls)[k * 5+i]?=some u
 | [],_,k,q,a,h,_,_,_,_=>Lc
 | y :: l,[],k,q,a,_,h,_,_,_=>Lc
 | y :: l,b :: ls,0,q,a,h1,h2,i,u,hu=>by
  simp at h1 h2;subst h1 h2;have hi:i<(stC y b).length:=(Nh hu).1;rw [Kpp,Nat.zero_mul,Nat.zero_add,List.getElem?_append_left hi];exact hu
 | y :: l,b :: ls,k+1,q,a,h1,h2,i,u,hu=>by
  have ai:(stC y b).length=5:=rfl;rw [Kpp,List.getElem?_append_right (by rw [ai];omega),ai,show(k+1) * 5+i-5=k * 5+i from by omega];exact Kq9 l ls k q a Lk Lw i u hu
def Kpl (base:Nat) (v:Value) (w:World) (l:List (ByteArray×Ex)) (ls:List (Option Addr×Nat)):Prop:=
 ∀(j:Nat) (x:ByteArray×Ex) (a:Option Addr×Nat),l[j]?=some x->ls[j]?=some a->Off base v.ownBlock w (fun V=>Jt V x.2 a.1 a.2)
theorem Ko2.of_own {w:World} {base:Nat} {t:TypeId} {l:List (ByteArray×Ex)} {v:Value} {ls:List (Option Addr×Nat)} (h:w.ownsRow base t 5 v l.length (Kpp l ls)) (hl:ls.length=l.length)
  (hs:Kpl base v w l ls):∃A cap,v = .slice A l.length cap/\Ko2 w l A cap:=by
 rcases Nat.eq_zero_or_pos l.length with h0|h0
 ·obtain⟨A,cap,rfl,h1,h2⟩:=Jv h;exact⟨A,cap,rfl,h1,h2,fun h=>absurd h Ua⟩
 ·obtain⟨g,cap,rfl,hg,am,h1,h2,hc⟩:=Kc h h0;refine⟨_,cap,rfl,h1,h2,fun _=>⟨g,0,rfl,fun k q hk=>?_⟩⟩;have hka:k<ls.length:=by rw [hl];exact(Nh hk).1
  have ha:ls[k]?=some ls[k]:=Ng hka;generalize ls[k]=a at ha;have cB:=fun i u hu=>hc _ _ (Kq9 l ls k q a hk ha i u hu);rw [Nat.zero_add];exact⟨a.1,a.2,cB 0 _ rfl,cB 1 _ rfl,cB 2 _ rfl,cB 3 _ rfl,cB 4 _ rfl,(hs k q a hk ha).here⟩
theorem Kpl.app {base m:Nat} {v v2:Value} {w w1 w2:World} {l:List (ByteArray×Ex)} {ls:List (Option Addr×Nat)} {x:ByteArray×Ex} {a:Option Addr×Nat} (h:Kpl base v w l ls) (hl:ls.length=l.length) (hb:Below w.heap.size w w1)
  (hm:base<=m) (xo:∀b,v.ownBlock=some b->b<w.heap.size) (hwm:w.heap.size<=m) (hq:Off m none w1 (fun V=>Jt V x.2 a.1 a.2)) (hg:w1.grownBy w2 v.ownBlock)
  (hv:v2.ownBlock=v.ownBlock\/∀k,v2.ownBlock=some k->w1.heap.size<=k):Kpl base v2 w2 (l ++ [x]) (ls ++ [a]):=by
 intro j y c hy hc;have hz:=hb.size
 rcases Nat.lt_or_ge j ls.length with hj|hj
 ·rw [List.getElem?_append_left hj] at hc;rw [List.getElem?_append_left Ua] at hy;refine(h j y c hy hc).grow (fun b h1 h2 h3=>(hg.block b Ua h3).trans (hb.block b h2)) (Nat.le_trans hz hg.size) ?_
  rcases hv with hv|hv
  ·exact .inl hv
  ·exact .inr fun k hk=>Nat.le_trans hz (hv k hk)
 ·obtain rfl:j=ls.length:=by
   have:=(Nh hc).1;simp at this;omega
  rw [List.getElem?_append_right (Ns _)] at hc;simp at hc;subst hc;rw [hl,List.getElem?_append_right (Ns _)] at hy;simp at hy;subst hy;refine hq.fresh hm (fun b h1 h2=>hg.block b h2 fun he=>?_) hg.size fun k hk=>?_
  ·have:=xo b he.symm;exact Ua
  ·rcases hv with hv|hv
   ·rw [hv] at hk;exact .inl (by have:=xo k hk;omega)
   ·exact .inr (hv k hk)
section
variable {P:Program} {k e:TypeId} {w:World}
theorem Ktq {o:Oper} {a:Act} {K:Act->World->Prop} {Q:Exit->Act->World->Prop} (m x v:Operand) (t:TypeId) (jf:o.op=Op.mapUpdate t m x v)
  (hk:P.underlying k=some .string) (ht:P.underlying t=some (.map k e))
  (b n:Nat) (f:ByteArray->Option Value) (s:ByteArray) (i:Value) (hm:a.eval m = .map (some b)) (ae:Ko3 P k w b n f) (hn:n<1000000000) (hx:a.eval x = .string s) (hv:a.eval v=i)
  (hs:s.size<=maxLen) (hK:∀w',Ko3 P k w' b (n+1) (Jki f s i)->w.grownBy w' (some b)->K (a.put o.dst undef) w'):o.wp P a w K Q:=by
 obtain⟨D,h1,h2,h3⟩:=ae;obtain⟨w',eH,h4,h5⟩:=h1.update (R:=Jn7) (string_keyed hk) ht Uo (keyOf_string_mk hk hs) (val:=i) (d:= .held i) (ps:=[]) rfl;unfold Oper.wp;simp [execOp,jf,hm,hx,hv,eH,Result.andThen];refine hK w' ⟨_,h4,h2.put _ _,fun t=>?_⟩ h5
 by_cases aU:t.data=s.data
 ·have dz:WideAt.IsKeyLit (.string s.data.toList):=by trivial
  rw [aU,has_put_same h2 dz];refine⟨by simp [Jki,aU],fun z=>?_⟩;rw [atKey_put_same h2 dz];simp [Jki,aU]
 ·have aS:(Lit.string t.data.toList)≠ .string s.data.toList:=by
   intro h;injection h with h;exact aU Lf
  rw [has_put_other aS,(h3 t).1];refine⟨by simp [Jki,aU],fun z=>?_⟩;rw [atKey_put_other aS,(h3 t).2 z];simp [Jki,aU]
end
end Go.Proofs.YtdgjplldlfeolaaGreatDoor
namespace Go.Proofs.YtdgjplldlfeolaaGreatDoor
open Go.RowKit Go.Sort
theorem Kct (l:List Int) (A:Option Addr) (cap:Nat) (B:Option Addr) (capB:Nat) (w:World) (h1:Qc w (nuI l) l.length A cap) (h2:Qc w (nuI l) l.length B capB) :
  Calls Tryz.prog 26 #[.slice A l.length cap,.slice B l.length capB] w fun r w'=>r = .returned (.bool true)/\Below w.heap.size w w':=by
 have l1:=h1.1;have l2:=h2.1;have m1:=h1.2.1;have m2:=h2.2.1;unfold maxLen at m1 m2
 go_enter Tryz.func26,Tryz.ntmps26
 go_wp2_with fail
 go_loopw [5] (fun i wr=>∃(k:Nat),k<=l.length/\i = .int .i64 k/\Below w.heap.size w wr) (fun i _=>l.length-(intOf i).toNat)
 case atStart=>exact⟨0,Np,rfl,Nt⟩
 case round=>
  obtain⟨k,hk,rfl,ab⟩:=hrel
  by_cases am:k<l.length
  ·have hx:l[k]?=some l[k]:=Ng am;generalize l[k]=x at hx;obtain⟨b,off,rfl,ac,c1⟩:=(h1.later ab).get (Jx3 hx);obtain⟨b2,off2,rfl,aq,c2⟩:=(h2.later ab).get (Jx3 hx);clear hx;have te:(x != x)=false:=Uh;have aH:=ac;have bG:=aq;exact Uaw
  ·obtain rfl:k=l.length:=Ua
   go_wp2_with fail
   go_ret;exact⟨rfl,ab⟩
end Go.Proofs.YtdgjplldlfeolaaGreatDoor
