/- Lemmas. -/
import Derived.Test.YtknfcamdfdfoeaaGreatDoorMac
import Derived.Test.YtknfcamdfdfoeaaGreatDoorZ02
import Derived.Test.YtknfcamdfdfoeaaGreatDoorZ01
import Derived.Test.YtknfcamdfdfoeaaGreatDoorRows
import Derived.Test.YtknfcamdfdfoeaaGreatDoorZ00
set_option linter.unusedVariables false
set_option linter.unusedSimpArgs false
set_option maxRecDepth 100000
set_option maxHeartbeats 64000000
namespace Go.Proofs.YtknfcamdfdfoeaaGreatDoor
open Go.RowKit Go.Sort
theorem Jzu (e:Ex) (l:List Va) (A:Option Addr) (cap B:Nat) (Ae:Option Addr) (ce:Nat) (w:World) (t0 t1:Int) (hk:e.kind=7) (aU:Ex.typL l e.sub=([t0,t1],0)) (fQ:t0=1\/t0=2) (gJ:t1=1\/t1=2) (dI:e.name.toList.isEmpty=true)
  (av:Q7 e l A cap B Ae ce w) (aF:Xz e l A cap B w) :
  Calls Tryz.prog 132 #[Q6 l A cap B,exV e Ae ce] w fun r w'=>r = .returned (.tuple #[.int .i64 (e.typ l).1,.int .i64 (e.typ l).2])/\Below w.heap.size w w':=by
 have hv:e.typ l=Y2 l e.kind e.n e.name [t0,t1]:=Lz;rw [hk,Y2,if_neg Lx] at hv;have dS:(Ex.typL l e.sub).1 = [t0,t1]:=L2;have lG:(Ex.typL l e.sub).2=0:=L2;clear aU;unfold Q7 at av;unfold Xz at aF;have q1:(e.kind == 1)=false:=Ud;have q2:(e.kind == 2)=false:=Ud;have q3:(e.kind == 3)=false:=Ud;have q4:(e.kind == 4)=false:=Ud;have q5:(e.kind == 5)=false:=Ud;have q6:(e.kind == 6)=false:=Ud;have q7:(e.kind == 7)=true:=Ud;clear hk;unfold Q6 exV at *
 rcases fQ with rfl|rfl <;> rcases gJ with rfl|rfl <;>
 ·simp [Je3,Jbl] at hv;have HV:=Nf hv;clear hv
  go_enter Tryz.func132,Tryz.ntmps132
  go_wp2_with (first|(go_at_call 151;refine(av _ Jb).mono ?_;rintro r w1 ⟨⟨v,rfl,ae⟩,ac⟩;have ⟨ak,af⟩:=aft ac;(try simp at af);have bV:=alt ac;rw [dS] at ae;simp only [List.map_cons,List.map_nil,Nl,Nm,Nat.zero_add,Nat.reduceAdd] at ae;obtain⟨g,gc,rfl,eN,aG,bJ,cg,ah⟩:=Kc ae Ua;unfold maxLen at cg;have e0:=ah 0 _ rfl;have e1:=ah 1 _ rfl;clear ah ae)|(go_at_call 152;refine(aF _ Jb).mono ?_;rintro r w1 ⟨rfl,ac⟩;have ⟨ak,af⟩:=aft ac;(try simp at af);have bV:=alt ac;(try have eC:=Nr aG ac.size)))
  refine Jx Ug Ug (fun bj=>?_)
  repeat (quiet_step (fail))
  refine wpQuiet_nil ?_;intro wq au;replace au:=qbo au;obtain⟨au,dA,bh⟩:=au;clear bj
  (try simp at bh)
  have oO:=alt au
  go_wp2_with fail
  go_ret2
  exact⟨Vi,Jb⟩
theorem Kag (e:Ex) (l:List Va) (A:Option Addr) (cap B:Nat) (Ae:Option Addr) (ce:Nat) (w:World) (t0:Int) (hk:e.kind=8) (aU:Ex.typL l e.sub=([t0],0)) (fQ:t0=1\/t0=2) (dI:e.name.toList.isEmpty=false) (nP:(K7 l e.name).2=true)
  (av:Q7 e l A cap B Ae ce w) (aF:Xz e l A cap B w) :
  Calls Tryz.prog 132 #[Q6 l A cap B,exV e Ae ce] w fun r w'=>r = .returned (.tuple #[.int .i64 (e.typ l).1,.int .i64 (e.typ l).2])/\Below w.heap.size w w':=by
 have hv:e.typ l=Y2 l e.kind e.n e.name [t0]:=Lz;rw [hk,Y2,if_neg Lx] at hv;have dS:(Ex.typL l e.sub).1 = [t0]:=L2;have lG:(Ex.typL l e.sub).2=0:=L2;clear aU;unfold Q7 at av;unfold Xz at aF;have q1:(e.kind == 1)=false:=Ud;have q2:(e.kind == 2)=false:=Ud;have q3:(e.kind == 3)=false:=Ud;have q4:(e.kind == 4)=false:=Ud;have q5:(e.kind == 5)=false:=Ud;have q6:(e.kind == 6)=false:=Ud;have q7:(e.kind == 7)=false:=Ud;have q8:(e.kind == 8)=true:=Ud;clear hk;unfold Q6 exV at *;generalize aL:(K7 l e.name).1=nm at hv aF;clear aL
 rcases fQ with rfl|rfl <;> cases eu:(nm == 2) <;>
 ·exact Ufe
theorem Kab (e:Ex) (l:List Va) (A:Option Addr) (cap B:Nat) (Ae:Option Addr) (ce:Nat) (w:World) (t0:Int) (hk:e.kind=9) (aU:Ex.typL l e.sub=([t0],0)) (fQ:t0=1\/t0=2) (dI:e.name.toList.isEmpty=false) (nP:(K7 l e.name).2=true)
  (av:Q7 e l A cap B Ae ce w) (aF:Xz e l A cap B w) :
  Calls Tryz.prog 132 #[Q6 l A cap B,exV e Ae ce] w fun r w'=>r = .returned (.tuple #[.int .i64 (e.typ l).1,.int .i64 (e.typ l).2])/\Below w.heap.size w w':=by
 have hv:e.typ l=Y2 l e.kind e.n e.name [t0]:=Lz;rw [hk,Y2,if_neg Lx] at hv;have dS:(Ex.typL l e.sub).1 = [t0]:=L2;have lG:(Ex.typL l e.sub).2=0:=L2;clear aU;unfold Q7 at av;unfold Xz at aF;have q1:(e.kind == 1)=false:=Ud;have q2:(e.kind == 2)=false:=Ud;have q3:(e.kind == 3)=false:=Ud;have q4:(e.kind == 4)=false:=Ud;have q5:(e.kind == 5)=false:=Ud;have q6:(e.kind == 6)=false:=Ud;have q7:(e.kind == 7)=false:=Ud;have q8:(e.kind == 8)=false:=Ud;have q9:(e.kind == 9)=true:=Ud;clear hk;unfold Q6 exV at *;generalize aL:(K7 l e.name).1=nm at hv aF;clear aL
 rcases fQ with rfl|rfl <;> cases eu:(nm == 2) <;>
 ·exact Ufe
theorem Jzp (e:Ex) (l:List Va) (A:Option Addr) (cap B:Nat) (Ae:Option Addr) (ce:Nat) (w:World) (t0 t1:Int) (hk:e.kind=10) (aU:Ex.typL l e.sub=([t0,t1],0)) (fQ:t0=1\/t0=2) (gJ:t1=1\/t1=2) (dI:e.name.toList.isEmpty=false) (nP:(K7 l e.name).2=true)
  (av:Q7 e l A cap B Ae ce w) (aF:Xz e l A cap B w) :
  Calls Tryz.prog 132 #[Q6 l A cap B,exV e Ae ce] w fun r w'=>r = .returned (.tuple #[.int .i64 (e.typ l).1,.int .i64 (e.typ l).2])/\Below w.heap.size w w':=by
 have hv:e.typ l=Y2 l e.kind e.n e.name [t0,t1]:=Lz;rw [hk,Y2,if_neg Lx] at hv;have dS:(Ex.typL l e.sub).1 = [t0,t1]:=L2;have lG:(Ex.typL l e.sub).2=0:=L2;clear aU;unfold Q7 at av;unfold Xz at aF;have q1:(e.kind == 1)=false:=Ud;have q2:(e.kind == 2)=false:=Ud;have q3:(e.kind == 3)=false:=Ud;have q4:(e.kind == 4)=false:=Ud;have q5:(e.kind == 5)=false:=Ud;have q6:(e.kind == 6)=false:=Ud;have q7:(e.kind == 7)=false:=Ud;have q8:(e.kind == 8)=false:=Ud;have q9:(e.kind == 9)=false:=Ud;have q10:(e.kind == 10)=true:=Ud;clear hk;unfold Q6 exV at *;generalize aL:(K7 l e.name).1=nm at hv aF;clear aL
 have dD:∀(p q:Bool),(nm == 2)=p->(t0 == t1)=q->e.typ l=if (p && q)=true/\(t0=1\/t0=2) then(t0,0) else(0,20):=by
  rintro p q rfl rfl;rw [hv];rfl
 clear hv
 cases a:(nm == 2)
 ·have hv:e.typ l=(0,20):=by rw [dD _ _ a rfl];rfl
  exact Ua3
 cases b:(t0 == t1)
 ·have hv:e.typ l=(0,20):=by rw [dD _ _ a b];rfl
  exact Ua3
 have hv:=dD _ _ a b;clear dD
 rcases fQ with rfl|rfl
 ·replace hv:e.typ l=(1,0):=hv;exact Uec
 ·replace hv:e.typ l=(2,0):=hv;exact Uec
theorem Jz2 (e:Ex) (l:List Va) (A:Option Addr) (cap B:Nat) (Ae:Option Addr) (ce:Nat) (w:World) (t0 t1:Int) (hk:e.kind=5) (aU:Ex.typL l e.sub=([t0,t1],0)) (fQ:t0=1\/t0=2) (gJ:t1=1\/t1=2) (ho:(Jcg e.n t0).1=1\/(Jcg e.n t0).1=2) (dI:e.name.toList.isEmpty=true)
  (av:Q7 e l A cap B Ae ce w) (aF:Xz e l A cap B w) :
  Calls Tryz.prog 132 #[Q6 l A cap B,exV e Ae ce] w fun r w'=>r = .returned (.tuple #[.int .i64 (e.typ l).1,.int .i64 (e.typ l).2])/\Below w.heap.size w w':=by
 have hv:e.typ l=Y2 l e.kind e.n e.name [t0,t1]:=Lz;rw [hk,Y2,if_neg Lx] at hv;have dS:(Ex.typL l e.sub).1 = [t0,t1]:=L2;have lG:(Ex.typL l e.sub).2=0:=L2;clear aU;unfold Q7 at av;unfold Xz at aF;have q1:(e.kind == 1)=false:=Ud;have q2:(e.kind == 2)=false:=Ud;have q3:(e.kind == 3)=false:=Ud;have q4:(e.kind == 4)=false:=Ud;have q5:(e.kind == 5)=true:=Ud;clear hk;unfold Q6 exV at *
 have dD:∀(p q:Bool),(Jcg e.n t0).2=p->(t0 == t1)=q->e.typ l=if (p && q)=true/\((Jcg e.n t0).1=1\/(Jcg e.n t0).1=2) then((Jcg e.n t0).1,0) else(0,20):=by
  rintro p q rfl rfl;rw [hv];rfl
 clear hv
 cases a:(Jcg e.n t0).2
 ·have hv:e.typ l=(0,20):=by rw [dD _ _ a rfl];rfl
  exact Uaf
 cases b:(t0 == t1)
 ·have hv:e.typ l=(0,20):=by rw [dD _ _ a b];rfl
  exact Uaf
 have hv:=dD _ _ a b;clear dD
 rcases ho with ho|ho <;> rw [ho] at hv
 ·replace hv:e.typ l=(1,0):=hv;exact Ual
 ·replace hv:e.typ l=(2,0):=hv;exact Ual
theorem Jzf (e:Ex) (l:List Va) (A:Option Addr) (cap B:Nat) (Ae:Option Addr) (ce:Nat) (w:World) (h:(Ex.typL l e.sub).2≠0) (av:Q7 e l A cap B Ae ce w) :
  Calls Tryz.prog 132 #[Q6 l A cap B,exV e Ae ce] w fun r w'=>r = .returned (.tuple #[.int .i64 (e.typ l).1,.int .i64 (e.typ l).2])/\Below w.heap.size w w':=by
 have hv:e.typ l=(0,(Ex.typL l e.sub).2):=by rw [Ex.typ_eq,if_neg h]
 have hb:((Ex.typL l e.sub).2 != 0)=true:=Ve;clear h;have HV:=Nf hv;clear hv;unfold Q7 at av;unfold Q6 exV at *
 go_enter Tryz.func132,Tryz.ntmps132
 go_wp2_with (go_at_call 151;refine(av _ Jb).mono ?_;rintro r w1 ⟨⟨v,rfl,ae⟩,ac⟩;have ak:=Jg ac)
 go_ret2
 exact⟨Vi,Jb⟩
theorem Jux (e:Ex) (l:List Va) (A:Option Addr) (cap B:Nat) (Ae:Option Addr) (ce:Nat) (w:World) (h:(Ex.typL l e.sub).2=0) (dI:e.name.toList.isEmpty=false) (nP:(K7 l e.name).2=false)
  (av:Q7 e l A cap B Ae ce w) (aF:Xz e l A cap B w) :
  Calls Tryz.prog 132 #[Q6 l A cap B,exV e Ae ce] w fun r w'=>r = .returned (.tuple #[.int .i64 (e.typ l).1,.int .i64 (e.typ l).2])/\Below w.heap.size w w':=by
 have hv:e.typ l=(0,19):=by rw [Ex.typ_eq,if_pos h,Y2,if_pos ⟨dI,nP⟩]
 have HV:=Nf hv;clear hv;unfold Q7 at av;unfold Xz at aF;unfold Q6 exV at *
 go_enter Tryz.func132,Tryz.ntmps132
 go_wp2_with (first|(go_at_call 151;refine(av _ Jb).mono ?_;rintro r w1 ⟨⟨v,rfl,ae⟩,ac⟩;have ak:=Jg ac;have af:=ac.size;(try simp at af);have bV:=alt ac)|(go_at_call 152;refine mo (aF _ Jb) fun w1 ac ak af bV=>?_;(try simp at af)))
 go_ret2
 exact⟨Vi,Jb⟩
theorem Ji9 {e:Ex} (h:e.formed=true):((Jw e.kind).2.2.2.1=true->e.name.toList.isEmpty=false)/\((Jw e.kind).2.2.2.1=false->e.name.toList.isEmpty=true):=by
 rw [Ex.formed_eq,Bool.and_eq_true] at h;have h1:=h.1;simp only [Jl,Bool.and_eq_true,Bool.or_eq_true] at h1;refine⟨fun h2=>?_,fun h2=>?_⟩
 ·have h3:=h1.1.2;rw [h2] at h3;have h4:Kz e.name=true:=by simpa using h3.symm
  unfold Kz at h4
  split at h4
  ·rename_i h5;exact Jfp h5
  ·simp at h4
 ·rcases h1.2 with h3|h3
  ·rw [h2] at h3;simp at h3
  ·exact h3
theorem Jni {e:Ex} (h:e.formed=true) (hk:e.kind=4):e.n=1\/e.n=2:=by
 exact Ucz
theorem Jx0 (n t:Int) (h:t=1\/t=2):(Jcg n t).1=1\/(Jcg n t).1=2:=by
 unfold Jcg
 repeat' split
 all_goals simp [h]
theorem Juz (e:Ex):e.formed=true->∀(l:List Va) (A:Option Addr) (cap B n:Nat) (Ae:Option Addr) (ce:Nat) (w:World),Jt w e Ae ce->Jdw w l A cap B n->
  Calls Tryz.prog 132 #[Q6 l A cap B,exV e Ae ce] w fun r w'=>r = .returned (.tuple #[.int .i64 (e.typ l).1,.int .i64 (e.typ l).2])/\Below w.heap.size w w':=by
 induction e using Ex.ind with
 | h e ih=>
 intro hf l A cap B n Ae ce w he hl;have ai:=Ex.formed_kind hf
 have fD:e.sub.length<=3:=by
  exact Uc0
 have av:Q7 e l A cap B Ae ce w:=fun W h=>
  Jvu e l A cap B n Ae ce W (he.later h) (hl.later h) fD fun x hx A' c' W' h1 h2=>ih x hx (Ex.formed_sub hf hx) l A cap B n A' c' W' h1 h2
 have aF:Xz e l A cap B w:=fun W h=>Jr8 l A cap B n e.name U2 W (hl.later h)
 by_cases fK:(Ex.typL l e.sub).2=0
 case neg=>exact Jzf e l A cap B Ae ce w fK av
 have aO:=Ji9 hf;have aU:(Ex.typL l e.sub).1.length=e.sub.length:=Jj4 l e.sub fK;have eG:=Jl8 l e.sub fK;have ci:Ex.typL l e.sub=((Ex.typL l e.sub).1,0):=by rw [<-fK]
 by_cases oG:e.name.toList.isEmpty=false/\(K7 l e.name).2=false
 ·exact Jux e l A cap B Ae ce w fK oG.1 oG.2 av aF
 have rC:e.name.toList.isEmpty=false->(K7 l e.name).2=true:=fun h=>by
  cases h2:(K7 l e.name).2
  ·exact absurd ⟨h,h2⟩ oG
  ·exact Gd
 generalize (Ex.typL l e.sub).1=ts at aU eG ci;have cD:=ai.1
 rcases Jbc hf with hk|hk|hk|hk|hk|hk|hk|hk|hk|hk <;> rw [hk] at cD aO <;> simp [Jw] at cD aO
 ·obtain rfl:ts = []:=List.length_eq_zero_iff.1 (by rw [aU,cD];rfl);exact Jzt e l A cap B Ae ce w hk ci Me av aF
 ·obtain rfl:ts = []:=List.length_eq_zero_iff.1 (by rw [aU,cD];rfl);exact Jzr e l A cap B Ae ce w hk ci Me av aF
 ·obtain rfl:ts = []:=List.length_eq_zero_iff.1 (by rw [aU,cD];rfl);have hn:e.name.toList.isEmpty=false:=Me;exact Jzx e l A cap B Ae ce w hk ci hn (rC hn) av aF
 ·obtain⟨t0,rfl⟩:=Jcd (l:=ts) Ua;exact Kac e l A cap B Ae ce w t0 hk ci (eG _ Ul) (Jni hf hk) Me av aF
 ·obtain⟨t0,t1,rfl⟩:=Jcn (l:=ts) Ua;exact Jz2 e l A cap B Ae ce w t0 t1 hk ci (eG _ Ul) (eG _ Ul) (Jx0 _ _ (eG _ Ul)) Me av aF
 ·obtain⟨t0,t1,t2,rfl⟩:=Jn6 (l:=ts) Ua;exact Jzv e l A cap B Ae ce w t0 t1 t2 hk ci (eG _ Ul) (eG _ Ul) (eG _ Ul) Me av aF
 ·obtain⟨t0,t1,rfl⟩:=Jcn (l:=ts) Ua;exact Jzu e l A cap B Ae ce w t0 t1 hk ci (eG _ Ul) (eG _ Ul) Me av aF
 ·obtain⟨t0,rfl⟩:=Jcd (l:=ts) Ua;have hn:e.name.toList.isEmpty=false:=Me;exact Kag e l A cap B Ae ce w t0 hk ci (eG _ Ul) hn (rC hn) av aF
 ·obtain⟨t0,rfl⟩:=Jcd (l:=ts) Ua;have hn:e.name.toList.isEmpty=false:=Me;exact Kab e l A cap B Ae ce w t0 hk ci (eG _ Ul) hn (rC hn) av aF
 ·obtain⟨t0,t1,rfl⟩:=Jcn (l:=ts) Ua;have hn:e.name.toList.isEmpty=false:=Me;exact Jzp e l A cap B Ae ce w t0 t1 hk ci (eG _ Ul) (eG _ Ul) hn (rC hn) av aF
theorem Jpd (q:Qe) (hq:eqB q=true) (l:List Va) (A:Option Addr) (cap B n:Nat) (E1:Option Addr) (k1:Nat) (E2:Option Addr) (k2:Nat) (ins:Int) (Bd nd:Nat) (fd:ByteArray->Option Int) (w:World)
  (h1:Jt w q.first E1 k1) (h2:Jt w q.e E2 k2) (hl:Jdw w l A cap B n) (hd:Jz Tryz.prog 9 3 w Bd nd fd) :
  Calls Tryz.prog 112 #[Q6 l A cap B,qeV q E1 k1 E2 k2,.int .i64 ins,.map (some Bd)] w fun r w'=>r = .returned (.int .i64 (eqE l ins fd q))/\Below w.heap.size w w':=by
 obtain⟨qL,cM,ju,ji,cH⟩:=Jaq hq;clear hq;have hs:q.name.size<=maxLen:=U2;have aD:=hl.vars.len;unfold maxLen at aD;obtain⟨fD,cG⟩:=aD;have hm:=hl.map;have hBz:=hm.lt;have hBd:=hd.lt;have gA:=fun W h=>Juz q.e cM l A cap B n E2 k2 W (h2.later h) (hl.later h)
 have ey:q.delay=1->∀W,Below w.heap.size w W->Calls Tryz.prog 132 #[Q6 l A cap B,exV q.first E1 k1] W fun r w'=>r = .returned (.tuple #[.int .i64 (q.first.typ l).1,.int .i64 (q.first.typ l).2])/\Below W.heap.size W w':=
  fun js W h=>Juz q.first (ji js).1 l A cap B n E1 k1 W (h1.later h) (hl.later h)
 clear ji cM ju qL;have hv:eqE l ins fd q=eqE l ins fd q:=rfl;rw (occs:= .pos [2]) [eqE] at hv;unfold Q6 qeV exV at *
 cases hf:Qi l q.name with
 | none=>
  rw [hf] at hv;clear ey;dsimp only at hv;have HV:=Nf hv;clear hv
  go_enter Tryz.func112,Tryz.ntmps112
  go_wp2_with (first|(at_lookup;refine Qh rfl (.tmp 17) (.tmp 19) 115 rfl Tryz.underlying9 Tryz.underlying115 Tryz.underlying3 (Kj _) B n (Qi l) q.name rfl Udh rfl hs ?_)|(at_lookup;refine Qb rfl (.tmp 32) (.tmp 34) 115 rfl Tryz.underlying9 Tryz.underlying115 Tryz.underlying3 (Kj _) Bd nd fd q.name rfl Udh rfl hs ?_)|(go_at_call_of 132 E2;refine mo (gA _ Jb) fun w1 ac ak af bV=>?_;(try simp at af);(try have bV:=lt0 w w1);(try have gq:=ltA w 1 w1);(try have ow:=ltA w 2 w1);(try have ns:=lt0 wr w1);(try have nt:=ltA wr 1 w1);(try have cA:b<w1.heap.size:=by omega))|(go_at_call_of 132 E1;refine mo (ey _ Jb) fun w1 ac ak af bV=>?_;(try simp at af);(try have bV:=lt0 w w1);(try have gq:=ltA w 1 w1);(try have ow:=ltA w 2 w1);(try have ns:=lt0 wr w1);(try have nt:=ltA wr 1 w1);(try have cA:b<w1.heap.size:=by omega)))
  go_ret;exact⟨Jm HV.out.symm,Jb⟩
 | some j=>
  rw [hf] at hv;dsimp only at hv;obtain⟨k,v,rfl,hx,_⟩:=Zi hf;have fR:k<l.length:=(Nh hx).1;obtain⟨b,off,rfl,aH,⟨d0,d1,d2,d3⟩⟩:=hl.vars.get hx;have rD:Zz l k=v.type:=by unfold Zz;rw [Int.toNat_natCast,hx]
  rw [rD] at hv;clear hx rD;have bG:b<w.heap.size+1:=Ua;have ur:b<w.heap.size+2:=Ua
  by_cases c1:(k:Int)<ins
  ·rw [if_pos c1] at hv;clear ey;have HV:=Nf hv;clear hv
   go_enter Tryz.func112,Tryz.ntmps112
   go_wp2_with (first|(at_lookup;refine Qh rfl (.tmp 17) (.tmp 19) 115 rfl Tryz.underlying9 Tryz.underlying115 Tryz.underlying3 (Kj _) B n (Qi l) q.name rfl Udh rfl hs ?_)|(at_lookup;refine Qb rfl (.tmp 32) (.tmp 34) 115 rfl Tryz.underlying9 Tryz.underlying115 Tryz.underlying3 (Kj _) Bd nd fd q.name rfl Udh rfl hs ?_)|(go_at_call_of 132 E2;refine mo (gA _ Jb) fun w1 ac ak af bV=>?_;(try simp at af);(try have bV:=lt0 w w1);(try have gq:=ltA w 1 w1);(try have ow:=ltA w 2 w1);(try have ns:=lt0 wr w1);(try have nt:=ltA wr 1 w1);(try have cA:b<w1.heap.size:=by omega))|(go_at_call_of 132 E1;refine mo (ey _ Jb) fun w1 ac ak af bV=>?_;(try simp at af);(try have bV:=lt0 w w1);(try have gq:=ltA w 1 w1);(try have ow:=ltA w 2 w1);(try have ns:=lt0 wr w1);(try have nt:=ltA wr 1 w1);(try have cA:b<w1.heap.size:=by omega)))
   exact Udf
  rw [if_neg c1] at hv
  by_cases c2:0<(fd q.name).getD 0
  ·rw [if_pos c2] at hv;clear ey;have HV:=Nf hv;clear hv
   go_enter Tryz.func112,Tryz.ntmps112
   go_wp2_with (first|(at_lookup;refine Qh rfl (.tmp 17) (.tmp 19) 115 rfl Tryz.underlying9 Tryz.underlying115 Tryz.underlying3 (Kj _) B n (Qi l) q.name rfl Udh rfl hs ?_)|(at_lookup;refine Qb rfl (.tmp 32) (.tmp 34) 115 rfl Tryz.underlying9 Tryz.underlying115 Tryz.underlying3 (Kj _) Bd nd fd q.name rfl Udh rfl hs ?_)|(go_at_call_of 132 E2;refine mo (gA _ Jb) fun w1 ac ak af bV=>?_;(try simp at af);(try have bV:=lt0 w w1);(try have gq:=ltA w 1 w1);(try have ow:=ltA w 2 w1);(try have ns:=lt0 wr w1);(try have nt:=ltA wr 1 w1);(try have cA:b<w1.heap.size:=by omega))|(go_at_call_of 132 E1;refine mo (ey _ Jb) fun w1 ac ak af bV=>?_;(try simp at af);(try have bV:=lt0 w w1);(try have gq:=ltA w 1 w1);(try have ow:=ltA w 2 w1);(try have ns:=lt0 wr w1);(try have nt:=ltA wr 1 w1);(try have cA:b<w1.heap.size:=by omega)))
   exact Udf
  rw [if_neg c2] at hv
  cases c3:((q.e.typ l).2 != 0)
  case true=>
   rw [if_pos Bp] at hv;clear ey;have HV:=Nf hv;clear hv
   go_enter Tryz.func112,Tryz.ntmps112
   go_wp2_with (first|(at_lookup;refine Qh rfl (.tmp 17) (.tmp 19) 115 rfl Tryz.underlying9 Tryz.underlying115 Tryz.underlying3 (Kj _) B n (Qi l) q.name rfl Udh rfl hs ?_)|(at_lookup;refine Qb rfl (.tmp 32) (.tmp 34) 115 rfl Tryz.underlying9 Tryz.underlying115 Tryz.underlying3 (Kj _) Bd nd fd q.name rfl Udh rfl hs ?_)|(go_at_call_of 132 E2;refine mo (gA _ Jb) fun w1 ac ak af bV=>?_;(try simp at af);(try have bV:=lt0 w w1);(try have gq:=ltA w 1 w1);(try have ow:=ltA w 2 w1);(try have ns:=lt0 wr w1);(try have nt:=ltA wr 1 w1);(try have cA:b<w1.heap.size:=by omega))|(go_at_call_of 132 E1;refine mo (ey _ Jb) fun w1 ac ak af bV=>?_;(try simp at af);(try have bV:=lt0 w w1);(try have gq:=ltA w 1 w1);(try have ow:=ltA w 2 w1);(try have ns:=lt0 wr w1);(try have nt:=ltA wr 1 w1);(try have cA:b<w1.heap.size:=by omega)))
   exact Udf
  rw [if_neg Bp] at hv
  by_cases qd:q.delay=1
  ·replace ey:=ey qd;have q1:(q.delay == 1)=true:=by rw [qd];rfl
   cases c4:((q.first.typ l).1 != v.type)
   case true=>
    rw [if_pos ⟨qd,by simpa using c4⟩] at hv;clear qd;have HV:=Nf hv;clear hv
    go_enter Tryz.func112,Tryz.ntmps112
    go_wp2_with (first|(at_lookup;refine Qh rfl (.tmp 17) (.tmp 19) 115 rfl Tryz.underlying9 Tryz.underlying115 Tryz.underlying3 (Kj _) B n (Qi l) q.name rfl Udh rfl hs ?_)|(at_lookup;refine Qb rfl (.tmp 32) (.tmp 34) 115 rfl Tryz.underlying9 Tryz.underlying115 Tryz.underlying3 (Kj _) Bd nd fd q.name rfl Udh rfl hs ?_)|(go_at_call_of 132 E2;refine mo (gA _ Jb) fun w1 ac ak af bV=>?_;(try simp at af);(try have bV:=lt0 w w1);(try have gq:=ltA w 1 w1);(try have ow:=ltA w 2 w1);(try have ns:=lt0 wr w1);(try have nt:=ltA wr 1 w1);(try have cA:b<w1.heap.size:=by omega))|(go_at_call_of 132 E1;refine mo (ey _ Jb) fun w1 ac ak af bV=>?_;(try simp at af);(try have bV:=lt0 w w1);(try have gq:=ltA w 1 w1);(try have ow:=ltA w 2 w1);(try have ns:=lt0 wr w1);(try have nt:=ltA wr 1 w1);(try have cA:b<w1.heap.size:=by omega)))
    exact Udf
   rw [if_neg (by rintro⟨_,h⟩;exact h (by simpa using c4))] at hv;clear qd
   cases c5:((q.e.typ l).1 != v.type)
   case true=>
    rw [if_pos Sf] at hv;have HV:=Nf hv;clear hv
    go_enter Tryz.func112,Tryz.ntmps112
    go_wp2_with (first|(at_lookup;refine Qh rfl (.tmp 17) (.tmp 19) 115 rfl Tryz.underlying9 Tryz.underlying115 Tryz.underlying3 (Kj _) B n (Qi l) q.name rfl Udh rfl hs ?_)|(at_lookup;refine Qb rfl (.tmp 32) (.tmp 34) 115 rfl Tryz.underlying9 Tryz.underlying115 Tryz.underlying3 (Kj _) Bd nd fd q.name rfl Udh rfl hs ?_)|(go_at_call_of 132 E2;refine mo (gA _ Jb) fun w1 ac ak af bV=>?_;(try simp at af);(try have bV:=lt0 w w1);(try have gq:=ltA w 1 w1);(try have ow:=ltA w 2 w1);(try have ns:=lt0 wr w1);(try have nt:=ltA wr 1 w1);(try have cA:b<w1.heap.size:=by omega))|(go_at_call_of 132 E1;refine mo (ey _ Jb) fun w1 ac ak af bV=>?_;(try simp at af);(try have bV:=lt0 w w1);(try have gq:=ltA w 1 w1);(try have ow:=ltA w 2 w1);(try have ns:=lt0 wr w1);(try have nt:=ltA wr 1 w1);(try have cA:b<w1.heap.size:=by omega)))
    exact Udf
   rw [if_neg Sf] at hv;have HV:=Nf hv;clear hv
   go_enter Tryz.func112,Tryz.ntmps112
   go_wp2_with (first|(at_lookup;refine Qh rfl (.tmp 17) (.tmp 19) 115 rfl Tryz.underlying9 Tryz.underlying115 Tryz.underlying3 (Kj _) B n (Qi l) q.name rfl Udh rfl hs ?_)|(at_lookup;refine Qb rfl (.tmp 32) (.tmp 34) 115 rfl Tryz.underlying9 Tryz.underlying115 Tryz.underlying3 (Kj _) Bd nd fd q.name rfl Udh rfl hs ?_)|(go_at_call_of 132 E2;refine mo (gA _ Jb) fun w1 ac ak af bV=>?_;(try simp at af);(try have bV:=lt0 w w1);(try have gq:=ltA w 1 w1);(try have ow:=ltA w 2 w1);(try have ns:=lt0 wr w1);(try have nt:=ltA wr 1 w1);(try have cA:b<w1.heap.size:=by omega))|(go_at_call_of 132 E1;refine mo (ey _ Jb) fun w1 ac ak af bV=>?_;(try simp at af);(try have bV:=lt0 w w1);(try have gq:=ltA w 1 w1);(try have ow:=ltA w 2 w1);(try have ns:=lt0 wr w1);(try have nt:=ltA wr 1 w1);(try have cA:b<w1.heap.size:=by omega)))
   exact Udf
  ·clear ey;have q1:(q.delay == 1)=false:=by simpa using qd
   rw [if_neg (by rintro⟨h,_⟩;exact qd h)] at hv;clear qd
   cases c5:((q.e.typ l).1 != v.type)
   case true=>
    rw [if_pos Sf] at hv;have HV:=Nf hv;clear hv
    go_enter Tryz.func112,Tryz.ntmps112
    go_wp2_with (first|(at_lookup;refine Qh rfl (.tmp 17) (.tmp 19) 115 rfl Tryz.underlying9 Tryz.underlying115 Tryz.underlying3 (Kj _) B n (Qi l) q.name rfl Udh rfl hs ?_)|(at_lookup;refine Qb rfl (.tmp 32) (.tmp 34) 115 rfl Tryz.underlying9 Tryz.underlying115 Tryz.underlying3 (Kj _) Bd nd fd q.name rfl Udh rfl hs ?_)|(go_at_call_of 132 E2;refine mo (gA _ Jb) fun w1 ac ak af bV=>?_;(try simp at af);(try have bV:=lt0 w w1);(try have gq:=ltA w 1 w1);(try have ow:=ltA w 2 w1);(try have ns:=lt0 wr w1);(try have nt:=ltA wr 1 w1);(try have cA:b<w1.heap.size:=by omega))|(go_at_call_of 132 E1;refine mo (ey _ Jb) fun w1 ac ak af bV=>?_;(try simp at af);(try have bV:=lt0 w w1);(try have gq:=ltA w 1 w1);(try have ow:=ltA w 2 w1);(try have ns:=lt0 wr w1);(try have nt:=ltA wr 1 w1);(try have cA:b<w1.heap.size:=by omega)))
    exact Udf
   rw [if_neg Sf] at hv;have HV:=Nf hv;clear hv
   go_enter Tryz.func112,Tryz.ntmps112
   go_wp2_with (first|(at_lookup;refine Qh rfl (.tmp 17) (.tmp 19) 115 rfl Tryz.underlying9 Tryz.underlying115 Tryz.underlying3 (Kj _) B n (Qi l) q.name rfl Udh rfl hs ?_)|(at_lookup;refine Qb rfl (.tmp 32) (.tmp 34) 115 rfl Tryz.underlying9 Tryz.underlying115 Tryz.underlying3 (Kj _) Bd nd fd q.name rfl Udh rfl hs ?_)|(go_at_call_of 132 E2;refine mo (gA _ Jb) fun w1 ac ak af bV=>?_;(try simp at af);(try have bV:=lt0 w w1);(try have gq:=ltA w 1 w1);(try have ow:=ltA w 2 w1);(try have ns:=lt0 wr w1);(try have nt:=ltA wr 1 w1);(try have cA:b<w1.heap.size:=by omega))|(go_at_call_of 132 E1;refine mo (ey _ Jb) fun w1 ac ak af bV=>?_;(try simp at af);(try have bV:=lt0 w w1);(try have gq:=ltA w 1 w1);(try have ow:=ltA w 2 w1);(try have ns:=lt0 wr w1);(try have nt:=ltA wr 1 w1);(try have cA:b<w1.heap.size:=by omega)))
   exact Udf
theorem Jc8:(Tryz.prog.info? 57).map (fun i=>(i.zero,i.size,i.bytes))=some (some (.agg #[.string ⟨#[]⟩,.int .i64 0,.int .i64 0,.string ⟨#[]⟩]),4,48):=Ug
theorem Jol {p:Pr} {w w3:World} {v3:Value} (h:w3.ownsRow (w.heap.size+1) 57 4 v3 (0+p.ins.length+p.outs.length+p.locals.length) ([] ++ Xe p.ins ++ Xe p.outs ++ Xe p.locals)) :
  ∃A cap,Ending.returned v3 = .returned (.slice A (Je p).length cap)/\w3.ownsRow w.heap.size 57 4 (.slice A (Je p).length cap) (Je p).length (Xe (Je p)):=by
 have e1:0+p.ins.length+p.outs.length+p.locals.length=(Je p).length:=by simp [Je];omega
 have e2 : [] ++ Xe p.ins ++ Xe p.outs ++ Xe p.locals=Xe (Je p):=by simp [Je,Xe]
 rw [e1,e2] at h;obtain⟨A,cap,rfl,_,_⟩:=Jv h;refine⟨A,cap,rfl,h.1,?_⟩
 rcases h.2 with h2|⟨g,cap',cur,hv,hg,r⟩
 ·exact .inl h2
 ·exact .inr ⟨g,cap',cur,hv,Ua,r⟩
theorem Jcv (p:Pr) (a:PrA) (w:World) (hp:Kr w p a) (n1:p.ins.length<=1000000) (n2:p.outs.length<=1000000) (n3:p.locals.length<=1000000) :
  Calls Tryz.prog 42 #[prV p a] w fun r w'=>
   (∃A cap,r = .returned (.slice A (Je p).length cap)/\w'.ownsRow w.heap.size 57 4 (.slice A (Je p).length cap) (Je p).length (Xe (Je p)))/\Below w.heap.size w w':=by
 have ak:=hp.ins;have dm:=hp.outs;have kE:=hp.locals;obtain⟨A1,c1,A2,c2,A3,c3,A4,c4⟩:=a;dsimp only at ak dm kE;unfold prV;dsimp only
 go_enter Tryz.func42,Tryz.ntmps42
 go_wp2_with (at_builtin;refine K6 rfl _ _ 22 rfl (w.heap.size+1) 57 _ 4 48 Tryz.underlying22 Jc8 rfl Ua (.slice none 0 0) 0 [] A1 p.ins.length c1 (Xe p.ins) rfl (Nw) rfl (ak.later Jb).cells (Jbg _) Ua Ua Ul ?_;intro v1 w1 ba ac)
 have aC:=Nd w w1 ((Jc (Nt) _).trans (ac.mono Ua));have af:w.heap.size+1<=w1.heap.size:=V9;have k2:=Nb w1 w.heap.size 2 (.slice A2 p.outs.length c2) Ud9;have k3:=Nb w1 w.heap.size 3 (.slice A3 p.locals.length c3) Ud9
 go_region_law (first
  | (refine Jg1 rfl (.tmp 7) (.tmp 9) 22 rfl (w.heap.size+1) 57 _ 4 48 Tryz.underlying22 Jc8 rfl Ua v1 (0+p.ins.length) ([] ++ Xe p.ins) A2 p.outs.length c2 (Xe p.outs) rfl (Kp ba) rfl (dm.later (Jh aC)).cells (Jbg _) Ua Ua af ?_;intro v2 w2 ao aq;have iY:=Nd w w2 ((Jh aC).trans (aq.mono Ua));have br:w.heap.size+1<=w2.heap.size:=Nat.le_trans af aq.size;have k3':=Nb w2 w.heap.size 3 (.slice A3 p.locals.length c3) ((aq.cell (p:=⟨w.heap.size,3,none⟩) Ul).trans k3))
  | (refine Jg1 rfl (.tmp 10) (.tmp 12) 22 rfl (w.heap.size+1) 57 _ 4 48 Tryz.underlying22 Jc8 rfl Ua v2 (0+p.ins.length+p.outs.length) ([] ++ Xe p.ins ++ Xe p.outs) A3 p.locals.length c3 (Xe p.locals) rfl ao rfl (kE.later iY).cells (Jbg _) Ua Ua br ?_;intro v3 w3 aE aM))
 all_goals
  go_wp2_with fail
  go_ret;refine⟨?_,iY.trans (aM.mono Ua)⟩;exact Jol aE
def fV (f:Int×Int×Int):Value:= .agg #[.int .i64 f.1,.int .i64 f.2.1,.int .i64 f.2.2]
theorem Js4 (p:Pr) (a:PrA) (w:World) (hp:Kr w p a) (n1:p.ins.length<=1000000) (n2:p.outs.length<=1000000) (n3:p.locals.length<=1000000) (n4:p.eqs.length<=1000000) (he:K5 p≠0) :
  Calls Tryz.prog 75 #[prV p a] w fun r w'=>r = .returned (fV (J7 p))/\Below w.heap.size w w':=by
 have hv:J7 p=(4,0,K5 p):=by unfold J7;rw [if_pos he]
 have bN:=fun W h=>Jh3 p a W (hp.later h) n1 n2 n3 n4;have he':(K5 p != 0)=true:=Ta;clear he;obtain⟨A1,c1,A2,c2,A3,c3,A4,c4⟩:=a;unfold prV at *;unfold fV;dsimp only at *;have HV:=Nf hv;clear hv
 go_enter Tryz.func75,Tryz.ntmps75
 go_wp2_with (go_at_call 110;refine(bN _ Jb).mono ?_;rintro r w1 ⟨rfl,ac⟩;have ak:=Jg ac;have tH:=Jf ac;have af:=ac.size;(try simp at af);have bV:=alt ac)
 go_ways
 refine Nv (v:= .agg #[.int .i64 (4),.int .i64 (0),.int .i64 (K5 p)]) Vy rfl ⟨Vp,?_⟩;exact Km
theorem Jep {p:Pr} (h:Qw p=true):∀v∈Je p,Jb8 v:=by
 obtain⟨_,h1,h2,h3,_⟩:=X4 h;intro v hv;simp only [Je,List.mem_append] at hv
 rcases hv with (hv|hv)|hv
 ·exact h1 v hv
 ·exact h2 v hv
 ·exact h3 v hv
theorem Z5 {p:Pr} (h:K5 p=0):Qw p=true:=by
 unfold K5 at h
 split at h
 ·exact Ua
 ·rename_i h2;simpa using h2
theorem Jun (p:Pr) (a:PrA) (w:World) (hp:Kr w p a) (n1:p.ins.length<=1000000) (n2:p.outs.length<=1000000) (n3:p.locals.length<=1000000) (n4:p.eqs.length<=1000000) (he:K5 p=0)
  (dP:8<p.ins.length\/8<p.outs.length\/24<(Je p).length) :
  Calls Tryz.prog 75 #[prV p a] w fun r w'=>r = .returned (fV (J7 p))/\Below w.heap.size w w':=by
 have hv:J7 p=(4,0,3):=by unfold J7;rw [if_neg Ua,if_pos dP]
 have bN:=fun W h=>Jh3 p a W (hp.later h) n1 n2 n3 n4;have aJ:=fun W h=>Jcv p a W (hp.later h) n1 n2 n3;rw [he] at bN;clear he;obtain⟨A1,c1,A2,c2,A3,c3,A4,c4⟩:=a;unfold prV at *;unfold fV;dsimp only at *;have aO:True:=trivial
 by_cases g1:8<p.ins.length
 ·exact Bh
 by_cases g2:8<p.outs.length
 ·exact Bh
 have g3:24<(Je p).length:=Ua;clear dP;have HV:=Nf hv;clear hv
 go_enter Tryz.func75,Tryz.ntmps75
 go_wp2_with (first|(go_at_call 110;refine(bN _ Jb).mono ?_;rintro r wa ⟨rfl,aA⟩;have aW:=Jg aA;have bS:=Jf aA;have cN:w.heap.size+2<=wa.heap.size:=Ut;have dG:=lt0 w wa;have mj:=ltA w 1 wa)|(go_at_call 42;refine(aJ _ Jb).mono ?_;rintro r wb ⟨⟨A,cap,rfl,ae⟩,aH⟩;have el:=Jg aH;have mJ:=Jf aH;have dH:=aH.size;have cA:=lt0 w wb;have mm:=ltA w 1 wb;have cR:=Ju.of_own ae)|(go_at_call 111;refine(aO _ _ _ (cR.later Jb)).mono ?_;rintro r wc ⟨⟨B,rfl,hB,kg⟩,bU⟩;have cB:=Jg bU;have eB:=Jf bU;have iG:=bU.size;have kh:=lt0 w wc;have uE:=ltA w 1 wc))
 refine Nv (v:= .agg #[.int .i64 (4),.int .i64 (0),.int .i64 (3)]) Vy rfl ⟨Vp,?_⟩;exact Km
end Go.Proofs.YtknfcamdfdfoeaaGreatDoor
