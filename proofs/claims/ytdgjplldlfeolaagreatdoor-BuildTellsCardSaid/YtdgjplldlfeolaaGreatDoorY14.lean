/- Lemmas. -/
import Derived.Test.YtdgjplldlfeolaaGreatDoorMac
import Derived.Test.YtdgjplldlfeolaaGreatDoorY08
import Derived.Test.YtdgjplldlfeolaaGreatDoorY06
import Derived.Test.YtdgjplldlfeolaaGreatDoorY01
import Derived.Test.YtdgjplldlfeolaaGreatDoorY05
import Derived.Test.YtdgjplldlfeolaaGreatDoorY07
import Derived.Test.YtdgjplldlfeolaaGreatDoorY00
import Derived.Test.YtdgjplldlfeolaaGreatDoorY09
import Derived.Test.YtdgjplldlfeolaaGreatDoorY04
import Derived.Test.YtdgjplldlfeolaaGreatDoorY03
import Derived.Test.YtdgjplldlfeolaaGreatDoorY02
set_option linter.unusedVariables false
set_option linter.unusedSimpArgs false
set_option maxRecDepth 100000
set_option maxHeartbeats 64000000
namespace Go.Proofs.YtdgjplldlfeolaaGreatDoor
open Go.RowKit Go.Sort
theorem Jzf (e:Ex) (l:List Va) (A:Option Addr) (cap B:Nat) (Ae:Option Addr) (ce:Nat) (w:World) (h:(Ex.typL l e.sub).2≠0) (av:Q7 e l A cap B Ae ce w) :
  Calls Tryz.prog 139 #[Q6 l A cap B,exV e Ae ce] w fun r w'=>r = .returned (.tuple #[.int .i64 (e.typ l).1,.int .i64 (e.typ l).2])/\Below w.heap.size w w':=by
 have hv:e.typ l=(0,(Ex.typL l e.sub).2):=by rw [Ex.typ_eq,if_neg h]
 have hb:((Ex.typL l e.sub).2 != 0)=true:=Vl;clear h;have HV:=Nf hv;clear hv;unfold Q7 at av;unfold Q6 exV at *
 go_enter Tryz.func139,Tryz.ntmps139
 go_wp2_with (go_at_call 148;refine(av _ Jb).mono ?_;rintro r w1 ⟨⟨v,rfl,ae⟩,ac⟩;have ak:=Jg ac)
 go_ret2
 exact⟨Vb,Jb⟩
theorem Jux (e:Ex) (l:List Va) (A:Option Addr) (cap B:Nat) (Ae:Option Addr) (ce:Nat) (w:World) (h:(Ex.typL l e.sub).2=0) (dI:e.name.toList.isEmpty=false) (nP:(K7 l e.name).2=false)
  (av:Q7 e l A cap B Ae ce w) (aF:Xz e l A cap B w) :
  Calls Tryz.prog 139 #[Q6 l A cap B,exV e Ae ce] w fun r w'=>r = .returned (.tuple #[.int .i64 (e.typ l).1,.int .i64 (e.typ l).2])/\Below w.heap.size w w':=by
 have hv:e.typ l=(0,19):=by rw [Ex.typ_eq,if_pos h,Y2,if_pos ⟨dI,nP⟩]
 have HV:=Nf hv;clear hv;unfold Q7 at av;unfold Xz at aF;unfold Q6 exV at *
 go_enter Tryz.func139,Tryz.ntmps139
 go_wp2_with (first|(go_at_call 148;refine(av _ Jb).mono ?_;rintro r w1 ⟨⟨v,rfl,ae⟩,ac⟩;have ak:=Jg ac;have af:=ac.size;(try simp at af);have bV:=alt ac)|(go_at_call 149;refine mo (aF _ Jb) fun w1 ac ak af bV=>?_;(try simp at af)))
 go_ret2
 exact⟨Vb,Jb⟩
theorem Ji9 {e:Ex} (h:e.formed=true):((Jw e.kind).2.2.2.1=true->e.name.toList.isEmpty=false)/\((Jw e.kind).2.2.2.1=false->e.name.toList.isEmpty=true):=by
 rw [Ex.formed_eq,Bool.and_eq_true] at h;have h1:=h.1;simp only [Jl,Bool.and_eq_true,Bool.or_eq_true] at h1;refine⟨fun h2=>?_,fun h2=>?_⟩
 ·have h3:=h1.1.2;rw [h2] at h3;have h4:Kz e.name=true:=by simpa using h3.symm
  unfold Kz at h4
  split at h4
  ·rename_i h5;exact Jfp h5
  ·simp at h4
 ·rcases h1.2 with h3|h3
  ·rw [h2] at h3;simp at h3
  ·exact h3
theorem Jni {e:Ex} (h:e.formed=true) (hk:e.kind=4):e.n=1\/e.n=2:=by
 rw [Ex.formed_eq,Bool.and_eq_true] at h;have h1:=h.1;rw [Jl,hk] at h1;simp [Jw] at h1;omega
theorem Jx0 (n t:Int) (h:t=1\/t=2):(Jcg n t).1=1\/(Jcg n t).1=2:=by
 unfold Jcg
 repeat' split
 all_goals simp [h]
theorem Juz (e:Ex):e.formed=true->∀(l:List Va) (A:Option Addr) (cap B n:Nat) (Ae:Option Addr) (ce:Nat) (w:World),Jt w e Ae ce->Jdw w l A cap B n->
  Calls Tryz.prog 139 #[Q6 l A cap B,exV e Ae ce] w fun r w'=>r = .returned (.tuple #[.int .i64 (e.typ l).1,.int .i64 (e.typ l).2])/\Below w.heap.size w w':=by
 induction e using Ex.ind with
 | h e ih=>
 intro hf l A cap B n Ae ce w he hl;have ai:=Ex.formed_kind hf
 have fD:e.sub.length<=3:=by
  have ai:=ai.1;unfold Jw at ai
  repeat' split at ai
  all_goals first|omega|(simp at ai;omega)
 have av:Q7 e l A cap B Ae ce w:=fun W h=>
  Jvu e l A cap B n Ae ce W (he.later h) (hl.later h) fD fun x hx A' c' W' h1 h2=>ih x hx (Ex.formed_sub hf hx) l A cap B n A' c' W' h1 h2
 have aF:Xz e l A cap B w:=fun W h=>Jr8 l A cap B n e.name Uo W (hl.later h)
 by_cases fK:(Ex.typL l e.sub).2=0
 case neg=>exact Jzf e l A cap B Ae ce w fK av
 have aO:=Ji9 hf;have aU:(Ex.typL l e.sub).1.length=e.sub.length:=Jj4 l e.sub fK;have eG:=Jl8 l e.sub fK;have ci:Ex.typL l e.sub=((Ex.typL l e.sub).1,0):=by rw [<-fK]
 by_cases oG:e.name.toList.isEmpty=false/\(K7 l e.name).2=false
 ·exact Jux e l A cap B Ae ce w fK oG.1 oG.2 av aF
 have rC:e.name.toList.isEmpty=false->(K7 l e.name).2=true:=fun h=>by
  cases h2:(K7 l e.name).2
  ·exact absurd ⟨h,h2⟩ oG
  ·exact Gp
 generalize (Ex.typL l e.sub).1=ts at aU eG ci;have cD:=ai.1
 rcases Jbc hf with hk|hk|hk|hk|hk|hk|hk|hk|hk|hk <;> rw [hk] at cD aO <;> simp [Jw] at cD aO
 ·obtain rfl:ts = []:=List.length_eq_zero_iff.1 (by rw [aU,cD];rfl);exact Jzt e l A cap B Ae ce w hk ci F6 av aF
 ·obtain rfl:ts = []:=List.length_eq_zero_iff.1 (by rw [aU,cD];rfl);exact Jzr e l A cap B Ae ce w hk ci F6 av aF
 ·obtain rfl:ts = []:=List.length_eq_zero_iff.1 (by rw [aU,cD];rfl);have hn:e.name.toList.isEmpty=false:=F6;exact Jzx e l A cap B Ae ce w hk ci hn (rC hn) av aF
 ·obtain⟨t0,rfl⟩:=Jcd (l:=ts) Ua;exact Kac e l A cap B Ae ce w t0 hk ci (eG _ Uh) (Jni hf hk) F6 av aF
 ·obtain⟨t0,t1,rfl⟩:=Jcn (l:=ts) Ua;exact Jz2 e l A cap B Ae ce w t0 t1 hk ci (eG _ Uh) (eG _ Uh) (Jx0 _ _ (eG _ Uh)) F6 av aF
 ·obtain⟨t0,t1,t2,rfl⟩:=Jn6 (l:=ts) Ua;exact Jzv e l A cap B Ae ce w t0 t1 t2 hk ci (eG _ Uh) (eG _ Uh) (eG _ Uh) F6 av aF
 ·obtain⟨t0,t1,rfl⟩:=Jcn (l:=ts) Ua;exact Jzu e l A cap B Ae ce w t0 t1 hk ci (eG _ Uh) (eG _ Uh) F6 av aF
 ·obtain⟨t0,rfl⟩:=Jcd (l:=ts) Ua;have hn:e.name.toList.isEmpty=false:=F6;exact Kag e l A cap B Ae ce w t0 hk ci (eG _ Uh) hn (rC hn) av aF
 ·obtain⟨t0,rfl⟩:=Jcd (l:=ts) Ua;have hn:e.name.toList.isEmpty=false:=F6;exact Kab e l A cap B Ae ce w t0 hk ci (eG _ Uh) hn (rC hn) av aF
 ·obtain⟨t0,t1,rfl⟩:=Jcn (l:=ts) Ua;have hn:e.name.toList.isEmpty=false:=F6;exact Jzp e l A cap B Ae ce w t0 t1 hk ci (eG _ Uh) (eG _ Uh) hn (rC hn) av aF
theorem Jpd (q:Qe) (hq:eqB q=true) (l:List Va) (A:Option Addr) (cap B n:Nat) (E1:Option Addr) (k1:Nat) (E2:Option Addr) (k2:Nat) (ins:Int) (Bd nd:Nat) (fd:ByteArray->Option Int) (w:World)
  (h1:Jt w q.first E1 k1) (h2:Jt w q.e E2 k2) (hl:Jdw w l A cap B n) (hd:Jz Tryz.prog 9 3 w Bd nd fd) :
  Calls Tryz.prog 143 #[Q6 l A cap B,qeV q E1 k1 E2 k2,.int .i64 ins,.map (some Bd)] w fun r w'=>r = .returned (.int .i64 (eqE l ins fd q))/\Below w.heap.size w w':=by
 obtain⟨qL,cM,ju,ji,cH⟩:=Jaq hq;clear hq;have hs:q.name.size<=maxLen:=Uo;have aD:=hl.vars.len;unfold maxLen at aD;obtain⟨fD,cG⟩:=aD;have hm:=hl.map;have hBz:=hm.lt;have hBd:=hd.lt;have gA:=fun W h=>Juz q.e cM l A cap B n E2 k2 W (h2.later h) (hl.later h)
 have ey:q.delay=1->∀W,Below w.heap.size w W->Calls Tryz.prog 139 #[Q6 l A cap B,exV q.first E1 k1] W fun r w'=>r = .returned (.tuple #[.int .i64 (q.first.typ l).1,.int .i64 (q.first.typ l).2])/\Below W.heap.size W w':=
  fun js W h=>Juz q.first (ji js).1 l A cap B n E1 k1 W (h1.later h) (hl.later h)
 clear ji cM ju qL;have hv:eqE l ins fd q=eqE l ins fd q:=rfl;rw (occs:= .pos [2]) [eqE] at hv;unfold Q6 qeV exV at *
 cases hf:Qi l q.name with
 | none=>
  rw [hf] at hv;clear ey;dsimp only at hv;have HV:=Nf hv;clear hv
  go_enter Tryz.func143,Tryz.ntmps143
  go_wp2_with (first|(at_lookup;refine Qh rfl (.tmp 17) (.tmp 19) 177 rfl Tryz.underlying9 Tryz.underlying177 Tryz.underlying3 (Kj _) B n (Qi l) q.name rfl Ub8 rfl hs ?_)|(at_lookup;refine Qb rfl (.tmp 32) (.tmp 34) 177 rfl Tryz.underlying9 Tryz.underlying177 Tryz.underlying3 (Kj _) Bd nd fd q.name rfl Ub8 rfl hs ?_)|(go_at_call_of 139 E2;refine mo (gA _ Jb) fun w1 ac ak af bV=>?_;(try simp at af);(try have bV:=lt0 w w1);(try have gq:=ltA w 1 w1);(try have ow:=ltA w 2 w1);(try have ns:=lt0 wr w1);(try have nt:=ltA wr 1 w1);(try have cA:b<w1.heap.size:=by omega))|(go_at_call_of 139 E1;refine mo (ey _ Jb) fun w1 ac ak af bV=>?_;(try simp at af);(try have bV:=lt0 w w1);(try have gq:=ltA w 1 w1);(try have ow:=ltA w 2 w1);(try have ns:=lt0 wr w1);(try have nt:=ltA wr 1 w1);(try have cA:b<w1.heap.size:=by omega)))
  go_ret;exact⟨Jm HV.out.symm,Jb⟩
 | some j=>
  rw [hf] at hv;dsimp only at hv;obtain⟨k,v,rfl,hx,_⟩:=Zi hf;have fR:k<l.length:=(Nh hx).1;obtain⟨b,off,rfl,aH,⟨d0,d1,d2,d3⟩⟩:=hl.vars.get hx;have rD:Zz l k=v.type:=by unfold Zz;rw [Int.toNat_natCast,hx]
  rw [rD] at hv;clear hx rD;have bG:b<w.heap.size+1:=Ua;have ur:b<w.heap.size+2:=Ua
  by_cases c1:(k:Int)<ins
  ·rw [if_pos c1] at hv;exact Uc5
  rw [if_neg c1] at hv
  by_cases c2:0<(fd q.name).getD 0
  ·rw [if_pos c2] at hv;exact Uc5
  rw [if_neg c2] at hv
  cases c3:((q.e.typ l).2 != 0)
  case true=>
   rw [if_pos (by simpa using c3)] at hv;exact Uc5
  rw [if_neg (by simpa using c3)] at hv
  by_cases qd:q.delay=1
  ·replace ey:=ey qd;have q1:(q.delay == 1)=true:=by rw [qd];rfl
   cases c4:((q.first.typ l).1 != v.type)
   case true=>
    rw [if_pos ⟨qd,by simpa using c4⟩] at hv;clear qd;exact Uc6
   rw [if_neg (by rintro⟨_,h⟩;exact h (by simpa using c4))] at hv;clear qd
   cases c5:((q.e.typ l).1 != v.type)
   case true=>
    exact Uc4
   rw [if_neg (by simpa using c5)] at hv;exact Uc6
  ·clear ey;have q1:(q.delay == 1)=false:=by simpa using qd
   rw [if_neg (by rintro⟨h,_⟩;exact qd h)] at hv;clear qd
   cases c5:((q.e.typ l).1 != v.type)
   case true=>
    exact Uc4
   rw [if_neg (by simpa using c5)] at hv;exact Uc6
def fV (f:Int×Int×Int):Value:= .agg #[.int .i64 f.1,.int .i64 f.2.1,.int .i64 f.2.2]
theorem Js4 (p:Pr) (a:PrA) (w:World) (hp:Kr w p a) (n1:p.ins.length<=1000000) (n2:p.outs.length<=1000000) (n3:p.locals.length<=1000000) (n4:p.eqs.length<=1000000) (he:K5 p≠0) :
  Calls Tryz.prog 132 #[prV p a] w fun r w'=>r = .returned (fV (J7 p))/\Below w.heap.size w w':=by
 have hv:J7 p=(4,0,K5 p):=by unfold J7;rw [if_pos he]
 have bN:=fun W h=>Jh3 p a W (hp.later h) n1 n2 n3 n4;have he':(K5 p != 0)=true:=F8;clear he;obtain⟨A1,c1,A2,c2,A3,c3,A4,c4⟩:=a;unfold prV at *;unfold fV;dsimp only at *;have HV:=Nf hv;clear hv
 go_enter Tryz.func132,Tryz.ntmps132
 go_wp2_with (go_at_call 8;refine(bN _ Jb).mono ?_;rintro r w1 ⟨rfl,ac⟩;have ak:=Jg ac;have tH:=Jf ac;have af:=ac.size;(try simp at af);have bV:=alt ac)
 go_ways
 refine Nv (v:= .agg #[.int .i64 (4),.int .i64 (0),.int .i64 (K5 p)]) Vm rfl ⟨Ln,?_⟩;exact Km
theorem Jep {p:Pr} (h:Qw p=true):∀v∈Je p,Jb8 v:=by
 obtain⟨_,h1,h2,h3,_⟩:=X4 h;intro v hv;simp only [Je,List.mem_append] at hv
 rcases hv with (hv|hv)|hv
 ·exact h1 v hv
 ·exact h2 v hv
 ·exact h3 v hv
theorem Z5 {p:Pr} (h:K5 p=0):Qw p=true:=by
 unfold K5 at h
 split at h
 ·exact Ua
 ·rename_i h2;simpa using h2
theorem Jun (p:Pr) (a:PrA) (w:World) (hp:Kr w p a) (n1:p.ins.length<=1000000) (n2:p.outs.length<=1000000) (n3:p.locals.length<=1000000) (n4:p.eqs.length<=1000000) (he:K5 p=0)
  (dP:8<p.ins.length\/8<p.outs.length\/24<(Je p).length) :
  Calls Tryz.prog 132 #[prV p a] w fun r w'=>r = .returned (fV (J7 p))/\Below w.heap.size w w':=by
 have hv:J7 p=(4,0,3):=by unfold J7;rw [if_neg Ua,if_pos dP]
 have bN:=fun W h=>Jh3 p a W (hp.later h) n1 n2 n3 n4;have aJ:=fun W h=>Jcv p a W (hp.later h) n1 n2 n3;rw [he] at bN;clear he;obtain⟨A1,c1,A2,c2,A3,c3,A4,c4⟩:=a;unfold prV at *;unfold fV;dsimp only at *;have aO:True:=trivial
 by_cases g1:8<p.ins.length
 ·exact Tz
 by_cases g2:8<p.outs.length
 ·exact Tz
 have g3:24<(Je p).length:=Ua;clear dP;have HV:=Nf hv;clear hv
 go_enter Tryz.func132,Tryz.ntmps132
 go_wp2_with (first|(go_at_call 8;refine(bN _ Jb).mono ?_;rintro r wa ⟨rfl,aA⟩;have aW:=Jg aA;have bS:=Jf aA;have cN:w.heap.size+2<=wa.heap.size:=U3;have dG:=lt0 w wa;have mj:=ltA w 1 wa)|(go_at_call 118;refine(aJ _ Jb).mono ?_;rintro r wb ⟨⟨A,cap,rfl,ae⟩,aH⟩;have el:=Jg aH;have mJ:=Jf aH;have dH:=aH.size;have cA:=lt0 w wb;have mm:=ltA w 1 wb;have cR:=Ju.of_own ae)|(go_at_call 138;refine(aO _ _ _ (cR.later Jb)).mono ?_;rintro r wc ⟨⟨B,rfl,hB,kg⟩,bU⟩;have cB:=Jg bU;have eB:=Jf bU;have iG:=bU.size;have kh:=lt0 w wc;have uE:=ltA w 1 wc))
 refine Nv (v:= .agg #[.int .i64 (4),.int .i64 (0),.int .i64 (3)]) Vm rfl ⟨Ln,?_⟩;exact Km
theorem Juh {d:ByteArray->Option Int} {k:Nat} (HD:Hid (∀s,0<=(d s).getD 0/\(d s).getD 0<=(k:Int))) {n:ByteArray} (h0:0<=(d n).getD 0) (h1:(d n).getD 0<=(k:Int)) :
  Hid (∀s,0<=((upd d n ((d n).getD 0+1)) s).getD 0/\((upd d n ((d n).getD 0+1)) s).getD 0<=((k+1:Nat):Int)):=by
 intro s;have h2:=HD.out s;unfold upd
 by_cases h:s.data=n.data
 ·rw [if_pos h];simp only [Option.getD_some];omega
 ·rw [if_neg h];omega
theorem Jqf (p:Pr) (a:PrA) (w:World) (hp:Kr w p a) (n1:p.ins.length<=1000000) (n2:p.outs.length<=1000000) (n3:p.locals.length<=1000000) (n4:p.eqs.length<=1000000) (he:K5 p=0)
  (g1:p.ins.length<=8) (g2:p.outs.length<=8) (g3:(Je p).length<=24) :
  Calls Tryz.prog 132 #[prV p a] w fun r w'=>r = .returned (fV (J7 p))/\Below w.heap.size w w':=by
 have dD:J7 p=Jhl p (Jah (Je p) 0 (Je p)):=by unfold J7;rw [if_neg Ua,if_neg Ua]
 have jn:=Z5 he;have mn:=Jep jn;have dn:=(X4 jn).2.2.2.2;have bN:=fun W h=>Jh3 p a W (hp.later h) n1 n2 n3 n4;have aJ:=fun W h=>Jcv p a W (hp.later h) n1 n2 n3;rw [he] at bN;clear he jn;have aO:=fun A cap W h=>Jtr (Je p) A cap (fun v hv=>by have:=(mn v hv).1;unfold maxLen;omega) Ua W h;have kC:p.ins.length<=(Je p).length:=by simp [Je]
 have jN:∀v∈Je p,v.name.size<=maxLen:=fun v hv=>by have:=(mn v hv).1;unfold maxLen;omega
 have HSM:=Nf jN;clear jN mn;have jR:=Nf dn;clear dn;have jQ:=Nf dD;clear dD;have oM:=hp.eqs.len;obtain⟨A1,c1,A2,c2,A3,c3,A4,c4⟩:=a;unfold maxLen at oM;unfold prV at *;unfold fV;dsimp only at *;obtain⟨tC,tD⟩:=oM;have HIL:=Nf kC;clear kC;generalize hL:Je p=L at *;have HL:=Nf hL;clear hL
 go_enter Tryz.func132,Tryz.ntmps132
 go_wp2_with (first|(go_at_call 8;refine(bN _ Jb).mono ?_;rintro r wa ⟨rfl,aA⟩;have aW:=Jg aA;have bS:=Jf aA;have cN:w.heap.size+2<=wa.heap.size:=U3;have dG:=lt0 w wa;have mj:=ltA w 1 wa)|(go_at_call 118;refine(aJ _ Jb).mono ?_;rintro r wb ⟨⟨A,cap,rfl,ae⟩,aH⟩;have el:=Jg aH;have mJ:=Jf aH;have dH:=aH.size;have cA:=lt0 w wb;have mm:=ltA w 1 wb;have cR:=Ju.of_own ae)|(go_at_call 138;refine(aO _ _ _ (cR.later Jb)).mono ?_;rintro r wc ⟨⟨B,rfl,hB,kg⟩,bU⟩;have cB:=Jg bU;have eB:=Jf bU;have iG:=bU.size;have kh:=lt0 w wc;have uE:=ltA w 1 wc))
 refine Jo fun W0 ag=>?_;have ax:=Nd w W0 Uz;have zk:=Nd wc W0 Uz;have uF:wc.heap.size<W0.heap.size:=Vu;have bD:=lt0 w W0;have iq:=ltA w 1 W0;have p1:=Nb W0 w.heap.size 1 (.slice A1 p.ins.length c1) Uf;have p4:=Nb W0 w.heap.size 4 (.slice A4 p.eqs.length c4) Uf;have f0:=Na W0 (w.heap.size+1) 0 0 Uf;have f1:=Na W0 (w.heap.size+1) 1 0 Uf;have f2:=Na W0 (w.heap.size+1) 2 0 Uf;have l0:=Nb W0 wc.heap.size 0 (.slice A L.length cap) Uf;have l1:=Nb W0 wc.heap.size 1 (.map (some B)) Uf;have z0:=Nc W0 (w.heap.size+1) 0 Uf;have z1:=Nc W0 (w.heap.size+1) 1 Uf;have z2:=Nc W0 (w.heap.size+1) 2 Uf;clear ag;have bE:Ju W0 L A cap:=cR.later Jb;have eU:=kg.bel zk;have bT:=hp.eqs.later ax;have uG:=eU.lt;dsimp only at bT;clear bN aJ aO ae cR kg aW el cB bS mJ eB hp
 go_loopw [47] (fun i wr=>∃k:Nat,k<=L.length/\i = .int .i64 k/\Jah L k (L.drop k)=Jah L 0 L/\Below W0.heap.size W0 wr) (fun i _=>L.length-(intOf i).toNat)
 case atStart=>exact⟨0,Np,rfl,rfl,Nt⟩
 case round=>
  obtain⟨k,hk,rfl,aa,ab⟩:=hrel;have hc:=Jg ab;have eh:=Jf ab;have bu:=ab.size;have ej:=eU.bel ab;have fF:=lt0 w wr;have fa:=ltA w 1 wr;have hr3:=lt0 wc wr;have sj:B<wr.heap.size:=Ua
  by_cases am:k<L.length
  ·obtain⟨x,hx,-,hd⟩:=Kl am;obtain⟨b,off,rfl,aH,⟨d0,d1,d2,d3⟩⟩:=(bE.later ab).get hx;rw [hd,Jah] at aa;have hs:=HSM.out x (Ni hx);clear hd hx
   cases dj:((Qi L x.name).getD 0 != (k:Int))
   case true=>
    rw [if_pos Se] at aa;have hv:J7 p=(2,(k:Int),18):=by rw [jQ.out,<-aa];rfl
    clear aa;have HV:=Nf hv;clear hv
    go_wp2_with (first|(at_lookup;refine Qb rfl (.tmp 53) (.tmp 55) 177 rfl Tryz.underlying9 Tryz.underlying177 Tryz.underlying3 (Kj _) B L.length (Qi L) x.name rfl Ub8 rfl hs ?_))
    refine Nv (v:= .agg #[.int .i64 (2),.int .i64 ((k:Int)),.int .i64 (18)]) Vm rfl ⟨Ln,?_⟩;exact Km
   rw [if_neg Se] at aa;have HR:=Nf aa;clear aa
   go_wp2_with (first|(at_lookup;refine Qb rfl (.tmp 53) (.tmp 55) 177 rfl Tryz.underlying9 Tryz.underlying177 Tryz.underlying3 (Kj _) B L.length (Qi L) x.name rfl Ub8 rfl hs ?_))
   exact Ubw
  obtain rfl:k=L.length:=Ua;rw [Nn,Jah] at aa;have fC:J7 p=Jkn L p.ins.length (Zy L p.ins.length 0 (fun _=>none) p.eqs):=by rw [jQ.out,<-aa,Jhl,HL.out]
  have ku:=Nf fC;clear fC aa;clear ej;obtain⟨Wm,rfl⟩:∃Wm,Wm=wr:=⟨wr,rfl⟩;have iQ:=Nd w Wm (Jd ax ab);have rE:=bE.later ab;have zl:=eU.bel ab;have zn:=bT.later ab;have hcz:=lt0 wc Wm;replace p1:=(hc _ _ bD).trans p1;replace p4:=(hc _ _ bD).trans p4;replace f0:=(hc _ _ iq).trans f0;replace f1:=(hc _ _ iq).trans f1;replace f2:=(hc _ _ iq).trans f2;replace l0:=(hc _ _ uF).trans l0;replace l1:=(hc _ _ uF).trans l1;replace z0:=(eh _ _ iq).trans z0;replace z1:=(eh _ _ iq).trans z1;replace z2:=(eh _ _ iq).trans z2;clear hc eh bu ab bE eU bT ax zk bD iq uF sj uG;have uG:=zl.lt;have gI:=@run_makeMap Tryz.prog
  go_wp2_with fail
  clear gI
  go_loopw [66] (fun i wr=>∃(k:Nat) (d:ByteArray->Option Int),k<=p.eqs.length/\i = .int .i64 k/\Jz Tryz.prog 9 3 wr Wm.heap.size k d/\Hid (∀s,0<=(d s).getD 0/\(d s).getD 0<=(k:Int))/\Zy L p.ins.length k d (p.eqs.drop k)=Zy L p.ins.length 0 (fun _=>none) p.eqs/\Below Wm.heap.size Wm wr) (fun i _=>p.eqs.length-(intOf i).toNat)
  case atStart=>exact⟨0,_,Np,rfl,Jz.made _,Nf (fun s=>⟨Uh,Uh⟩),rfl,Jb⟩
  case round=>
   obtain⟨k,d,hk,rfl,hmd,HD,aa,ab⟩:=hrel;have hc:=Jg ab;have eh:=Jf ab;have bu:=ab.size;have ek:=hmd.lt;have fF:=lt0 w wr;have fa:=ltA w 1 wr;have hr3:=lt0 wc wr;have sj:B<wr.heap.size:=Ua
   by_cases am:k<p.eqs.length
   ·obtain⟨q,hx,-,hd⟩:=Kl am;obtain⟨b,off,B1,n1,B2,n2,rfl,aH,⟨g0,g1,g2,g3,g4,g5,g6,g7,g8,g9,s1,s2⟩⟩:=(zn.later ab).get hx;rw [hd,Zy] at aa;have hq:=jR.out q (Ni hx);have hs:q.name.size<=maxLen:=by have:=(Jaq hq).1;unfold maxLen;omega
    have ou:=fun W h1 h2 hl hd=>Jpd q hq L A cap B L.length B1 n1 B2 n2 p.ins.length Wm.heap.size k d W h1 h2 hl hd;unfold Q6 qeV at ou;obtain⟨hdq0,hdq1⟩:=HD.out q.name;clear hd hx hq
    cases dj:(eqE L p.ins.length d q != 0)
    case true=>
     rw [if_pos Se] at aa;have fC:J7 p=(3,(k:Int),eqE L p.ins.length d q):=Dt;clear aa;have HV:=Nf fC;clear fC
     go_wp2_with (first|(go_at_call 143;refine(ou _ (s1.later Jb) (s2.later Jb) ⟨rE.later Jb,Ub8⟩ Ub8).mono ?_;rintro r w1 ⟨rfl,ac⟩;have ak:=Jg ac;have db:=Jf ac;have af:=ac.size;(try simp at af);have bV:=alt ac;have mo:=lt0 wc w1)|(at_lookup;refine Qb rfl (.tmp 83) (.tmp 85) 177 rfl Tryz.underlying9 Tryz.underlying177 Tryz.underlying3 (Kj _) Wm.heap.size k d q.name rfl Ub8 rfl hs ?_)|(at_mapUpdate;refine Jau rfl (.tmp 83) (.tmp 85) (.tmp 87) 177 rfl Tryz.underlying9 Tryz.underlying177 Tryz.underlying3 Wm.heap.size k d q.name ((d q.name).getD 0+1) rfl Ub8 Ua rfl rfl hs Ua ?_;intro w2 cI aG))
     refine Nv (v:= .agg #[.int .i64 (3),.int .i64 ((k:Int)),.int .i64 ((eqE L p.ins.length d q))]) Vm rfl ⟨Ln,?_⟩;exact Km
    rw [if_neg Se] at aa;have HR:=Nf aa;clear aa
    go_wp2_with (first|(go_at_call 143;refine(ou _ (s1.later Jb) (s2.later Jb) ⟨rE.later Jb,Ub8⟩ Ub8).mono ?_;rintro r w1 ⟨rfl,ac⟩;have ak:=Jg ac;have db:=Jf ac;have af:=ac.size;(try simp at af);have bV:=alt ac;have mo:=lt0 wc w1)|(at_lookup;refine Qb rfl (.tmp 83) (.tmp 85) 177 rfl Tryz.underlying9 Tryz.underlying177 Tryz.underlying3 (Kj _) Wm.heap.size k d q.name rfl Ub8 rfl hs ?_)|(at_mapUpdate;refine Jau rfl (.tmp 83) (.tmp 85) (.tmp 87) 177 rfl Tryz.underlying9 Tryz.underlying177 Tryz.underlying3 Wm.heap.size k d q.name ((d q.name).getD 0+1) rfl Ub8 Ua rfl rfl hs Ua ?_;intro w2 cI aG))
    go_roundw
    case rel=>exact⟨k+1,_,Ua,Uw,cI,Juh HD hdq0 hdq1,HR.out,Jnu Jb aG (Ns _)⟩
    case measure=>simp [intOf];omega
   obtain rfl:k=p.eqs.length:=Ua;rw [Nn,Zy] at aa;have fC:J7 p=Jg3 d L p.ins.length:=Dt;have bL:=Nf fC;clear fC aa ku;obtain⟨We,rfl⟩:∃We,We=wr:=⟨wr,rfl⟩;have ro:=Nd w We (Jn iQ ab Ua);have hvae:=rE.later ab;have hr5:=lt0 Wm We;have bD:=lt0 w Wm;have af:=ltA w 1 Wm;replace p1:=(hc _ _ bD).trans p1;replace f0:=(hc _ _ af).trans f0;replace f1:=(hc _ _ af).trans f1;replace f2:=(hc _ _ af).trans f2;replace z0:=(eh _ _ af).trans z0;replace z1:=(eh _ _ af).trans z1;replace z2:=(eh _ _ af).trans z2;clear hc eh iQ ab rE zn zl;have kC:=HIL.out
   go_wp2_with fail
   go_loopw [13] (fun i wr=>∃k:Nat,p.ins.length<=k/\k<=L.length/\i = .int .i64 k/\Jam d k (L.drop k)=Jam d p.ins.length (L.drop p.ins.length)/\Below We.heap.size We wr) (fun i _=>L.length-(intOf i).toNat)
   case atStart=>exact⟨p.ins.length,Ns _,kC,rfl,rfl,Jb⟩
   case round=>
    obtain⟨k,fR,hk,rfl,aa,ab⟩:=hrel;have hc:=Jg ab;have eh:=Jf ab;have bu:=ab.size;have ej:=hmd.bel ab;have hr6:=lt0 w wr;have hr7:=ltA w 1 wr
    by_cases am:k<L.length
    ·obtain⟨x,hx,-,hd⟩:=Kl am;obtain⟨b,off,rfl,aH,⟨d0,d1,d2,d3⟩⟩:=(hvae.later ab).get hx;rw [hd,Jam] at aa;have hs:=HSM.out x (Ni hx);clear hd hx
     cases dj:((d x.name).getD 0 == 0)
     case true=>
      rw [if_pos Se] at aa;have hv:J7 p=(2,(k:Int),8):=by rw [bL.out,Jg3,<-aa]
      clear aa;have HV:=Nf hv;clear hv
      go_wp2_with (first|(at_lookup;refine Qb rfl (.tmp 98) (.tmp 103) 177 rfl Tryz.underlying9 Tryz.underlying177 Tryz.underlying3 (Kj _) Wm.heap.size p.eqs.length d x.name rfl Ub8 rfl hs ?_))
      refine Nv (v:= .agg #[.int .i64 (2),.int .i64 ((k:Int)),.int .i64 (8)]) Vm rfl ⟨Ln,?_⟩;exact Km
     rw [if_neg Se] at aa;have HR:=Nf aa;clear aa
     go_wp2_with (first|(at_lookup;refine Qb rfl (.tmp 98) (.tmp 103) 177 rfl Tryz.underlying9 Tryz.underlying177 Tryz.underlying3 (Kj _) Wm.heap.size p.eqs.length d x.name rfl Ub8 rfl hs ?_))
     go_roundw
     case rel=>exact⟨k+1,Ua,Ua,Uw,HR.out,Jb⟩
     case measure=>simp [intOf];omega
    obtain rfl:k=L.length:=Ua;rw [Nn,Jam] at aa;have hv:J7 p=(0,0,0):=by rw [bL.out,Jg3,<-aa]
    clear aa;have HV:=Nf hv;clear hv
    go_wp2_with fail
    refine Nv (v:= .agg #[.int .i64 (0),.int .i64 (0),.int .i64 (0)]) Vm rfl ⟨Ln,?_⟩;exact Km
theorem Jnk (p:Pr) (a:PrA) (w:World) (hp:Kr w p a) (n1:p.ins.length<=1000000) (n2:p.outs.length<=1000000) (n3:p.locals.length<=1000000) (n4:p.eqs.length<=1000000) :
  Calls Tryz.prog 132 #[prV p a] w fun r w'=>r = .returned (fV (J7 p))/\Below w.heap.size w w':=by
 by_cases he:K5 p=0
 ·by_cases hb:8<p.ins.length\/8<p.outs.length\/24<(Je p).length
  ·exact Jun p a w hp n1 n2 n3 n4 he hb
  ·exact Jqf p a w hp n1 n2 n3 n4 he Ua Ua Ua
 ·exact Js4 p a w hp n1 n2 n3 n4 he
theorem Jxz (l:List Va) (A:Option Addr) (cap:Nat) (hn:l.length<=1000000) (e:Ex):e.formed=true->OfP l A cap e:=by
 induction e using Ex.ind with
 | h e ih=>
 intro hf Ae ce ck cs w hg he hl;have ih':∀x∈e.sub,OfP l A cap x:=fun x hx=>ih x hx (Q9 hf x hx)
 by_cases h3:e.kind=3
 ·exact Jy4 l A cap hn e hf ih' Ae ce ck cs w hg he hl h3
 by_cases h8:e.kind=8
 ·exact Jyd l A cap hn e hf ih' Ae ce ck cs w hg he hl h8
 by_cases h9:e.kind=9
 ·exact Juj l A cap hn e hf ih' Ae ce ck cs w hg he hl h9
 by_cases bM:e.kind=10
 ·exact Jwu l A cap hn e hf ih' Ae ce ck cs w hg he hl bM
 exact Jxc l A cap hn e hf ih' Ae ce ck cs w hg he hl ⟨h3,h8,h9,bM⟩
theorem Zr (a b c:Int) (w:World):(Op.equalIn 10000 32 (.agg #[.int .i64 a,.int .i64 b,.int .i64 c]) (.agg #[.int .i64 0,.int .i64 0,.int .i64 0])).run Tryz.prog w = .ok (a == 0 && b == 0 && c == 0) w:=by
 have hS:Tryz.prog.underlying 32=some (.struct (Tryz.prog.fieldsOf 32)):=Ue;have hp:Tryz.prog.stoodInHeld 32=false:=Ue;rw [show(10000:Nat)=9999+1 from rfl,run_equalIn_agg w 9999 32 _ _ hS hp];simp only [Program.fieldsOf,Tryz.underlying32];go_simp
 by_cases h1:a=0 <;> by_cases h2:b=0 <;> by_cases h3:c=0 <;> simp [h1,h2,h3]
theorem Jmg (p:Pr) (a:PrA) (w:World) (hp:Kr w p a) (n1:p.ins.length<=1000000) (n2:p.outs.length<=1000000) (n3:p.locals.length<=1000000) (n4:p.eqs.length<=1000000) (aN:J7 p≠(0,0,0)) :
  Calls Tryz.prog 121 #[prV p a] w fun r w'=>r = .returned (fV (J7 p))/\Below w.heap.size w w':=by
 have aV:=fun W h=>Jnk p a W (hp.later h) n1 n2 n3 n4
 have aS:((J7 p).1 == 0 && (J7 p).2.1 == 0 && (J7 p).2.2 == 0)=false:=by
  exact Uaz
 have dp:∀w,(Op.equalIn 10000 32 (.agg #[.int .i64 (J7 p).1,.int .i64 (J7 p).2.1,.int .i64 (J7 p).2.2]) (.agg #[.int .i64 0,.int .i64 0,.int .i64 0])).run Tryz.prog w = .ok false w:=fun w=>by rw [Zr,aS]
 have fM:Tryz.prog.eqGuardType Tryz.prog.depth 32=false:=Ue;clear aN aS;obtain⟨A1,c1,A2,c2,A3,c3,A4,c4⟩:=a;unfold prV fV at *;dsimp only at *;generalize (J7 p).1=k1 at *;generalize (J7 p).2.1=k2 at *;generalize (J7 p).2.2=k3 at *;clear hp
 go_enter Tryz.func121,Tryz.ntmps121
 go_wp2_with (first|(go_at_call 132;refine(aV _ Jb).mono ?_;rintro r w1 ⟨rfl,ac⟩;have ak:=Jg ac;have tH:=Jf ac;have af:=ac.size;(try simp at af);have bV:=alt ac))
 refine Nv (v:= .agg #[.int .i64 k1,.int .i64 k2,.int .i64 k3]) Lt rfl ⟨rfl,?_⟩;exact Km
def Yy (l:List Va):Nat->List Va->Option (Nat×Int)
 | _,[]=>none
 | k,v :: r=>if Yc l v≠0 then some (k,Yc l v) else Yy l (k+1) r
def Jcy (l:List Va) (s:ByteArray):Int×ByteArray:=match Xb l s with|some v=>(v.ck,v.cn)|none=>(0,⟨#[]⟩)
def Y7 (l:List Va):Nat->List Qe->Option (Nat×Int)
 | _,[]=>none
 | k,q :: r=>if q.e.clk l (Jcy l q.name)≠0 then some (k,q.e.clk l (Jcy l q.name)) else Y7 l (k+1) r
def Ji8 (r:Option (Nat×Int)):Int×Int×Int:=match r with|some (k,e)=>(3,(k:Int),e)|none=>(0,0,0)
def Jgx (p:Pr) (r:Option (Nat×Int)):Int×Int×Int:=match r with|some (k,e)=>(2,(k:Int),e)|none=>Ji8 (Y7 (Je p) 0 p.eqs)
def Qg (p:Pr):Int×Int×Int:=if J7 p≠(0,0,0) then J7 p else Jgx p (Yy (Je p) 0 (Je p))
theorem Jlm {p:Pr} (h:J7 p=(0,0,0)):K5 p=0/\(Je p).length<=24:=by
 unfold J7 at h
 by_cases he:K5 p≠0
 ·rw [if_pos he] at h;simp at h
 rw [if_neg he] at h
 by_cases hb:8<p.ins.length\/8<p.outs.length\/24<(Je p).length
 ·rw [if_pos hb] at h;simp at h
 exact⟨Decidable.not_not.1 he,Ua⟩
theorem Jl3 (p:Pr) (a:PrA) (w:World) (hg:Ql w) (hp:Kr w p a) (n1:p.ins.length<=1000000) (n2:p.outs.length<=1000000) (n3:p.locals.length<=1000000) (n4:p.eqs.length<=1000000) (aN:J7 p=(0,0,0)) :
  Calls Tryz.prog 121 #[prV p a] w fun r w'=>r = .returned (fV (Qg p))/\Below w.heap.size w w':=by
 have dD:Qg p=Jgx p (Yy (Je p) 0 (Je p)):=by unfold Qg;rw [if_neg (by rw [aN];simp)]
 obtain⟨lG,hL24⟩:=Jlm aN;have dn:=(X4 (Z5 lG)).2.2.2.2;have aV:=fun W h=>Jnk p a W (hp.later h) n1 n2 n3 n4;have aJ:=fun W h=>Jcv p a W (hp.later h) n1 n2 n3;rw [aN] at aV;have dp:∀w,(Op.equalIn 10000 32 (.agg #[.int .i64 0,.int .i64 0,.int .i64 0]) (.agg #[.int .i64 0,.int .i64 0,.int .i64 0])).run Tryz.prog w = .ok true w:=fun w=>So;have fM:Tryz.prog.eqGuardType Tryz.prog.depth 32=false:=Ue;clear aN lG;have jQ:=Nf dD;clear dD;have jR:=Nf dn;clear dn;have bT:=hp.eqs;have oM:=hp.eqs.len;obtain⟨A1,c1,A2,c2,A3,c3,A4,c4⟩:=a;unfold maxLen at oM;unfold prV fV at *;dsimp only at *;obtain⟨tC,tD⟩:=oM;have cM:Jgx p none=Ji8 (Y7 (Je p) 0 p.eqs):=rfl;have tE:=Nf cM;clear cM;generalize hL:Je p=L at *;clear hL hp
 go_enter Tryz.func121,Tryz.ntmps121
 go_wp2_with (first|(go_at_call 132;refine(aV _ Jb).mono ?_;rintro r wa ⟨rfl,aA⟩;have aW:=Jg aA;have bS:=Jf aA;have cN:w.heap.size+2<=wa.heap.size:=U3;have dG:=lt0 w wa;have aX:=ltA w 1 wa)|(go_at_call 118;refine(aJ _ Jb).mono ?_;rintro r wb ⟨⟨A,cap,rfl,ae⟩,aH⟩;have el:=Jg aH;have mJ:=Jf aH;have dH:=aH.size;(try simp at dH);have cA:=lt0 w wb;have ep:=ltA w 1 wb;have cR:=Ju.of_own ae))
 refine Jo fun W0 ag=>?_;have ax:=Nd w W0 Uz;have bD:w.heap.size<W0.heap.size:=S7;have af:w.heap.size+1<W0.heap.size:=S7;have x4:=Nb W0 w.heap.size 4 (.slice A4 p.eqs.length c4) Uf;have f0:=Na W0 (w.heap.size+1) 0 0 Uf;have f1:=Na W0 (w.heap.size+1) 1 0 Uf;have f2:=Na W0 (w.heap.size+1) 2 0 Uf;have z0:=Nc W0 (w.heap.size+1) 0 Uf;have z1:=Nc W0 (w.heap.size+1) 1 Uf;have z2:=Nc W0 (w.heap.size+1) 2 Uf;have bE:Ju W0 L A cap:=by rw [ag];exact cR
 clear ag;replace bT:=bT.later ax;replace hg:=hg.later ax;clear aV aJ dp fM ae cR aW el bS mJ
 go_loopw [23] (fun i wr=>∃k:Nat,k<=L.length/\i = .int .i64 k/\Yy L k (L.drop k)=Yy L 0 L/\Below W0.heap.size W0 wr) (fun i _=>L.length-(intOf i).toNat)
 case atStart=>exact⟨0,Np,rfl,rfl,Nt⟩
 case round=>
  obtain⟨k,hk,rfl,aa,ab⟩:=hrel;have hc:=Jg ab;have eh:=Jf ab;have bu:=ab.size;have fF:=lt0 w wr;have fa:=ltA w 1 wr
  by_cases am:k<L.length
  ·have so:=fun(x:Va) W h=>Jpa L A cap x W ((hg.later ab).later h) ((bE.later ab).later h) Ua;obtain⟨x,hx,-,hd⟩:=Kl am;obtain⟨b,off,rfl,aH,⟨d0,d1,d2,d3⟩⟩:=(bE.later ab).get hx;rw [hd,Yy] at aa;have dy:=fun W h=>so x W h;clear so;unfold vaV at dy;clear hd hx;generalize Yc L x=de at *
   by_cases eD:de≠0
   ·rw [if_pos eD] at aa;have hv:Qg p=(2,(k:Int),de):=by rw [jQ.out,<-aa];rfl
    have t1:(de != 0)=true:=Sf;clear aa eD;have HV:=Nf hv;clear hv
    go_wp2_with (first|(go_at_call 133;refine(dy _ Jb).mono ?_;rintro r w1 ⟨rfl,ac⟩;have ak:=Jg ac;have db:=Jf ac;have eI:=ac.size;(try simp at eI);have bV:=lt0 w w1;have gq:=ltA w 1 w1))
    refine Nv (v:= .agg #[.int .i64 (2),.int .i64 ((k:Int)),.int .i64 (de)]) Lt rfl ⟨Ln,?_⟩;exact Km
   ·rw [if_neg eD] at aa;have t1:(de != 0)=false:=Sf;have HR:=Nf aa;clear aa eD
    go_wp2_with (first|(go_at_call 133;refine(dy _ Jb).mono ?_;rintro r w1 ⟨rfl,ac⟩;have ak:=Jg ac;have db:=Jf ac;have eI:=ac.size;(try simp at eI);have bV:=lt0 w w1;have gq:=ltA w 1 w1))
    exact Ubw
  obtain rfl:k=L.length:=Ua;rw [Nn,Yy] at aa;have fC:Qg p=Ji8 (Y7 L 0 p.eqs):=by rw [jQ.out,<-aa];exact tE.out
  have ku:=Nf fC;clear fC aa
  go_wp2_with fail
  clear hc eh bu fF fa
  go_loopw [40] (fun i wr=>∃k:Nat,k<=p.eqs.length/\i = .int .i64 k/\Y7 L k (p.eqs.drop k)=Y7 L 0 p.eqs/\Below W0.heap.size W0 wr) (fun i _=>p.eqs.length-(intOf i).toNat)
  case atStart=>exact⟨0,Np,rfl,rfl,ab⟩
  case round=>
   clear ab;obtain⟨k,hk,rfl,aa,ab⟩:=hrel;have hc:=Jg ab;have eh:=Jf ab;have bu:=ab.size;have fF:=lt0 w wr;have fa:=ltA w 1 wr
   by_cases am:k<p.eqs.length
   ·obtain⟨q,hx,-,hd⟩:=Kl am;obtain⟨b,off,B1,n1,B2,n2,rfl,aH,⟨g0,g1,g2,g3,g4,g5,g6,g7,g8,g9,s1,s2⟩⟩:=(bT.later ab).get hx;rw [hd,Y7] at aa
    have hf:q.e.formed=true:=by
     have:=jR.out q (Ni hx);simp only [eqB,Bool.and_eq_true] at this;exact(Ex.right_zero.1 (by simpa using this.1.2)).2.2
    have ap:=fun W h=>Jg9 L A cap q.name W ((bE.later ab).later h) Ua;have ix:=fun ck cs W h=>Jxz L A cap Ua q.e hf B2 n2 ck cs W ((hg.later ab).later h) (s2.later h) ((bE.later ab).later h);unfold exV at ix;clear hd hx hf;have bO:Jcy L q.name=Jcy L q.name:=rfl;rw (occs:= .pos [2]) [Jcy] at bO
    cases eB:Xb L q.name with
    | none=>
     rw [eB] at bO ap;dsimp only at bO;rw [bO] at aa;have ix:=ix 0 ⟨#[]⟩;unfold fcV vaV Jh8 at ap;dsimp only at ap;clear bO eB;generalize q.e.clk L (0,⟨#[]⟩)=de at *
     by_cases eD:de≠0
     ·exact T6
     ·exact T9
    | some v=>
     rw [eB] at bO ap;dsimp only at bO;rw [bO] at aa;have ix:=ix v.ck v.cn;unfold fcV vaV at ap;dsimp only at ap;clear bO eB;generalize q.e.clk L (v.ck,v.cn)=de at *
     by_cases eD:de≠0
     ·exact T6
     ·exact T9
   obtain rfl:k=p.eqs.length:=Ua;rw [Nn,Y7] at aa;have hv:Qg p=(0,0,0):=Dt;clear aa;have HV:=Nf hv;clear hv
   go_wp2_with fail
   refine Nv (v:= .agg #[.int .i64 (0),.int .i64 (0),.int .i64 (0)]) Lt rfl ⟨Ln,?_⟩;exact Km
theorem Jhx (p:Pr) (a:PrA) (w:World) (hg:Ql w) (hp:Kr w p a) (n1:p.ins.length<=1000000) (n2:p.outs.length<=1000000) (n3:p.locals.length<=1000000) (n4:p.eqs.length<=1000000) :
  Calls Tryz.prog 121 #[prV p a] w fun r w'=>r = .returned (fV (Qg p))/\Below w.heap.size w w':=by
 by_cases aN:J7 p=(0,0,0)
 ·exact Jl3 p a w hg hp n1 n2 n3 n4 aN
 ·have hv:Qg p=J7 p:=by unfold Qg;rw [if_pos aN]
  rw [hv];exact Jmg p a w hp n1 n2 n3 n4 aN
end Go.Proofs.YtdgjplldlfeolaaGreatDoor
namespace Go.Proofs.YtdgjplldlfeolaaGreatDoor
open Go.RowKit
def cnt (s:ByteArray):List Qe->Nat
 | []=>0
 | q :: r=>(if q.name=s then 1 else 0)+cnt s r
def occ (s:ByteArray):List Va->Nat
 | []=>0
 | v :: r=>(if s=v.name then 1 else 0)+occ s r
def Jhj (qs:List Qe):List Va->Nat
 | []=>0
 | v :: r=>cnt v.name qs+Jhj qs r
theorem Jg7 {L:List Va} : ∀(r:List Va) (k:Nat),Jah L k r=none->∀(i:Nat) (v:Va),r[i]?=some v->(Qi L v.name).getD 0=((k+i:Nat):Int)
 | [],_,_,i,v,hi=>by simp at hi
 | u :: r,k,h,i,v,hi=>by
  rw [Jah] at h
  by_cases hc:(Qi L u.name).getD 0≠(k:Int)
  ·rw [if_pos hc] at h;cases h
  ·rw [if_neg hc] at h
   cases i with
   | zero=>
    obtain rfl:u=v:=F9;have:(Qi L u.name).getD 0=(k:Int):=Decidable.not_not.1 hc;simpa using this
   | succ i=>
    have:=Jg7 r (k+1) h i v F9;rw [this];congr 1;omega
theorem Jhb {L:List Va} {ins:Int} {d:ByteArray->Option Int} {q:Qe} (h:eqE L ins d q=0):∃j,Qi L q.name=some j/\¬j<ins/\¬0<(d q.name).getD 0/\(q.e.typ L).2=0/\(q.e.typ L).1=Zz L j:=by
 unfold eqE at h
 cases hf:Qi L q.name with
 | none=>rw [hf] at h;simp at h
 | some j=>
  rw [hf] at h;simp only at h
  by_cases h1:j<ins
  ·rw [if_pos h1] at h;omega
  rw [if_neg h1] at h
  by_cases h2:0<(d q.name).getD 0
  ·rw [if_pos h2] at h;omega
  rw [if_neg h2] at h
  by_cases h3:(q.e.typ L).2≠0
  ·rw [if_pos h3] at h;exact absurd h h3
  rw [if_neg h3] at h
  by_cases h4:q.delay=1/\(q.first.typ L).1≠Zz L j
  ·rw [if_pos h4] at h;omega
  rw [if_neg h4] at h
  by_cases h5:(q.e.typ L).1≠Zz L j
  ·rw [if_pos h5] at h;omega
  exact⟨j,rfl,h1,h2,Decidable.not_not.1 h3,Decidable.not_not.1 h5⟩
theorem Ji0 (d:ByteArray->Option Int) (n s:ByteArray):((upd d n ((d n).getD 0+1)) s).getD 0=(d s).getD 0+((if n=s then 1 else 0:Nat):Int):=by
 unfold upd
 by_cases h:n=s
 ·subst h;simp
 ·have:¬s.data=n.data:=fun hd=>h (by ext1;exact hd.symm);rw [if_neg this,if_neg h];simp
theorem Jfq {L:List Va} {ins:Int} : ∀(r:List Qe) (k:Nat) (d:ByteArray->Option Int),(Zy L ins k d r).1=none->
  (∀s,((Zy L ins k d r).2 s).getD 0=(d s).getD 0+(cnt s r:Int))/\(∀q∈r,∃d',eqE L ins d' q=0)/\((∀s,0<=(d s).getD 0)->(∀s,(d s).getD 0<=1)->∀s,(d s).getD 0+(cnt s r:Int)<=1)
 | [],k,d,h=>⟨fun s=>by simp [Zy,cnt],Uh,fun _ h2 s=>by simpa [cnt] using h2 s⟩
 | q :: r,k,d,h=>by
  rw [Zy] at h ⊢
  by_cases hc:eqE L ins d q≠0
  ·rw [if_pos hc] at h;cases h
  ·rw [if_neg hc] at h ⊢;obtain⟨h1,h2,h3⟩:=Jfq r (k+1) _ h;have he:eqE L ins d q=0:=Decidable.not_not.1 hc;refine⟨fun s=>?_,fun x hx=>?_,fun p1 p2 s=>?_⟩
   ·rw [h1 s,Ji0,cnt];push_cast;omega
   ·rcases List.mem_cons.1 hx with rfl|hx
    ·exact⟨d,he⟩
    ·exact h2 x hx
   ·obtain⟨j,_,_,hd,_⟩:=Jhb he;have hz:(d q.name).getD 0=0:=by have:=p1 q.name;omega
    have:=h3 (fun t=>by rw [Ji0];have:=p1 t;split <;> omega) (fun t=>by
     rw [Ji0]
     split
     ·rename_i ht;subst ht;rw [hz];decide
     ·have:=p2 t;simpa using this) s
    rw [Ji0] at this;rw [cnt];push_cast;omega
theorem Jji {d:ByteArray->Option Int} : ∀(r:List Va) (k:Nat),Jam d k r=none->∀v∈r,(d v.name).getD 0≠0
 | [],_,_,v,hv=>by simp at hv
 | u :: r,k,h,v,hv=>by
  rw [Jam] at h
  by_cases hc:(d u.name).getD 0=0
  ·rw [if_pos hc] at h;cases h
  ·rw [if_neg hc] at h
   rcases List.mem_cons.1 hv with rfl|hv
   ·exact hc
   ·exact Jji r (k+1) h v hv
theorem Jmk (q:Qe) (qs:List Qe):∀r,Jhj (q :: qs) r=occ q.name r+Jhj qs r
 | []=>rfl
 | v :: r=>by simp only [Jhj,cnt,occ,Jmk q qs r];omega
theorem Jo9:∀r,Jhj [] r=0
 | []=>rfl
 | v :: r=>by simp only [Jhj,cnt,Jo9 r]
theorem Jp7 (qs:List Qe):∀r:List Va,(∀v∈r,cnt v.name qs=1)->Jhj qs r=r.length
 | [],_=>rfl
 | v :: r,h=>by rw [Jhj,h v Uh,Jp7 qs r (fun u hu=>h u S0)];simp;omega
theorem Jo5 (r:List Va):∀qs:List Qe,(∀q∈qs,occ q.name r=1)->Jhj qs r=qs.length
 | [],_=>Jo9 r
 | q :: qs,h=>by rw [Jmk,h q Uh,Jo5 r qs (fun u hu=>h u S0)];simp;omega
theorem Jpt (s:ByteArray):∀r:List Va,(∀u∈r,u.name≠s)->occ s r=0
 | [],_=>rfl
 | v :: r,h=>by rw [occ,if_neg (fun e=>h v Uh e.symm),Jpt s r (fun u hu=>h u S0)]
theorem Jre (s:ByteArray):∀(r:List Va) (i:Nat) (v:Va),r[i]?=some v->v.name=s->(∀(j:Nat) (u:Va),r[j]?=some u->u.name=s->j=i)->occ s r=1
 | [],i,v,h,_,_=>Lc
 | u :: r,0,v,h,hs,hu=>by
  obtain rfl:u=v:=Vl;rw [occ,if_pos hs.symm,Jpt s r];intro x hx sd;obtain⟨j,hj⟩:=List.getElem?_of_mem hx;have:=hu (j+1) x Ma sd;exact Ua
 | u :: r,i+1,v,h,hs,hu=>by
  have aS:¬s=u.name:=fun e=>by have:=hu 0 u rfl e.symm;omega
  rw [occ,if_neg aS,Jre s r i v Vl hs (fun j x hj hx=>by have:=hu (j+1) x Ma hx;omega)]
theorem Jkj {s:ByteArray} : ∀ {r:List Qe},(∀q∈r,q.name≠s)->cnt s r=0
 | [],_=>rfl
 | q :: r,h=>by rw [cnt,if_neg (h q Uh),Jkj (fun u hu=>h u S0)]
theorem Jyb {p:Pr} (h:J7 p=(0,0,0)) :
  (∀(i:Nat) (v:Va) (q:Qe),(Je p)[i]?=some v->q∈p.eqs->q.name=v.name->ofF q.e (Je p)=(v.type,0))/\
  (∀(i:Nat) (v:Va),(Je p)[i]?=some v->cnt v.name p.eqs=if i<p.ins.length then 0 else 1)/\p.eqs.length=p.outs.length+p.locals.length:=by
 unfold J7 at h
 by_cases he:K5 p≠0
 ·rw [if_pos he] at h;simp at h
 rw [if_neg he] at h
 by_cases hb:8<p.ins.length\/8<p.outs.length\/24<(Je p).length
 ·rw [if_pos hb] at h;simp at h
 rw [if_neg hb] at h;have jn:=Z5 (Decidable.not_not.1 he);have dn:=(X4 jn).2.2.2.2;have ai:(Je p).length=p.ins.length+p.outs.length+p.locals.length:=by simp [Je];try omega
 unfold Jhl at h
 cases hd:Jah (Je p) 0 (Je p) with
 | some k=>rw [hd] at h;simp at h
 | none=>
 rw [hd] at h;simp only at h;unfold Jkn at h
 cases hq:(Zy (Je p) p.ins.length 0 (fun _=>none) p.eqs).1 with
 | some k=>rw [hq] at h;simp at h
 | none=>
 rw [hq] at h;simp only at h;unfold Jg3 at h
 cases hm:Jam (Zy (Je p) p.ins.length 0 (fun _=>none) p.eqs).2 p.ins.length ((Je p).drop p.ins.length) with
 | some k=>rw [hm] at h;simp at h
 | none=>
 have re:=Jg7 _ _ hd;obtain⟨ak,dm,kE⟩:=Jfq _ _ _ hq;have wA:=kE (fun s=>Uh) (fun s=>Uh);have sg:=Jji _ _ hm;generalize (Je p)=L at *
 have nj:∀(q:Qe),q∈p.eqs->∃(j:Nat) (v:Va),Qi L q.name=some (j:Int)/\p.ins.length<=j/\L[j]?=some v/\v.name=q.name/\ofF q.e L=(v.type,0):=by
  intro q kB;obtain⟨d',hd'⟩:=dm q kB;obtain⟨j,h1,h2,h3,h4,h5⟩:=Jhb hd';obtain⟨k,v,rfl,hk,hn⟩:=Zi h1;refine⟨k,v,h1,Ua,hk,hn,?_⟩
  have hr:q.e.right=0:=by
   have:=dn q kB;simp only [eqB,Bool.and_eq_true] at this;simpa using this.1.2
  unfold ofF;rw [if_neg Ua];have ht:Zz L (k:Int)=v.type:=by unfold Zz;simp [hk]
  rw [ht] at h5;exact Prod.ext h5 h4
 have oI:∀(i:Nat) (v:Va) (q:Qe),L[i]?=some v->q∈p.eqs->q.name=v.name->Qi L q.name=some (i:Int):=by
  intro i v q hi kB hn;obtain⟨j,u,h1,_⟩:=nj q kB;have:=re i v hi;rw [<-hn,h1] at this;simp only [Option.getD_some] at this;rw [h1];congr 1;omega
 refine⟨fun i v q hi kB hn=>?_,fun i v hi=>?_,?_⟩
 ·obtain⟨j,u,h1,h2,h3,h4,h5⟩:=nj q kB;have:=oI i v q hi kB hn;rw [h1] at this;have jO:j=i:=by injection this with this;omega
  subst jO;rw [h3] at hi;obtain rfl:u=v:=by injection hi
  exact h5
 ·by_cases am:i<p.ins.length
  ·rw [if_pos am];refine Jkj fun q kB hn=>?_;obtain⟨j,u,h1,h2,_⟩:=nj q kB;have:=oI i v q hi kB hn;rw [h1] at this;injection this with this;exact Ua
  ·rw [if_neg am]
   have aj:v∈L.drop p.ins.length:=by
    refine Ni (i:=i-p.ins.length) ?_;rw [List.getElem?_drop];rw [show p.ins.length+(i-p.ins.length)=i from by omega];exact hi
   have h1:=sg v aj;rw [ak] at h1;have h2:=wA v.name;simp at h1 h2;omega
 ·have hL:(L.drop p.ins.length).length=p.outs.length+p.locals.length:=by rw [List.length_drop];omega
  rw [<-hL,<-Jp7 p.eqs (L.drop p.ins.length),Jo5]
  ·intro q kB;obtain⟨j,v,h1,h2,h3,h4,_⟩:=nj q kB;refine Jre q.name _ (j-p.ins.length) v ?_ h4 fun j' u hu gG=>?_
   ·rw [List.getElem?_drop,show p.ins.length+(j-p.ins.length)=j from by omega];exact h3
   ·rw [List.getElem?_drop] at hu;have:=oI _ u q hu kB gG.symm;rw [h1] at this;injection this with this;exact Ua
  ·intro v hv;obtain⟨i,hi⟩:=List.getElem?_of_mem hv;rw [List.getElem?_drop] at hi;have aj:=sg v hv;rw [ak] at aj;have h2:=wA v.name;simp at aj h2;omega
theorem Jf5 {p:Pr} (h:J7 p=(0,0,0)):∀q∈p.eqs,∃j,Qi (Je p) q.name=some j:=by
 unfold J7 at h
 by_cases he:K5 p≠0
 ·rw [if_pos he] at h;simp at h
 rw [if_neg he] at h
 by_cases hb:8<p.ins.length\/8<p.outs.length\/24<(Je p).length
 ·rw [if_pos hb] at h;simp at h
 rw [if_neg hb] at h;unfold Jhl at h
 cases hd:Jah (Je p) 0 (Je p) with
 | some k=>rw [hd] at h;simp at h
 | none=>
 rw [hd] at h;simp only at h;unfold Jkn at h
 cases hq:(Zy (Je p) p.ins.length 0 (fun _=>none) p.eqs).1 with
 | some k=>rw [hq] at h;simp at h
 | none=>
 intro q kB;obtain⟨d',hz⟩:=(Jfq p.eqs 0 _ hq).2.1 q kB;obtain⟨j,hj,_⟩:=Jhb hz;exact⟨j,hj⟩
theorem Jmn {L:List Va} {ins:Int} : ∀(r:List Qe) (k:Nat) (d:ByteArray->Option Int) (j:Nat) (e:Int),(Zy L ins k d r).1=some (j,e)->e≠0
 | [],k,d,j,e,h=>by simp [Zy] at h
 | q :: r,k,d,j,e,h=>by
  rw [Zy] at h
  by_cases hc:eqE L ins d q≠0
  ·exact Ubu
  ·rw [if_neg hc] at h;exact Jmn r _ _ j e h
theorem Jrg {p:Pr} (h:J7 p≠(0,0,0)):(J7 p).2.2≠0:=by
 unfold J7 at h ⊢
 by_cases he:K5 p≠0
 ·rw [if_pos he];exact he
 rw [if_neg he] at h ⊢
 by_cases hb:8<p.ins.length\/8<p.outs.length\/24<(Je p).length
 ·rw [if_pos hb];decide
 rw [if_neg hb] at h ⊢;unfold Jhl at h ⊢
 cases hd:Jah (Je p) 0 (Je p) with
 | some k=>simp
 | none=>
 rw [hd] at h;simp only at h ⊢;unfold Jkn at h ⊢
 cases hq:(Zy (Je p) p.ins.length 0 (fun _=>none) p.eqs).1 with
 | some k=>exact Jmn _ _ _ _ _ hq
 | none=>
 rw [hq] at h;simp only at h ⊢;unfold Jg3 at h ⊢
 cases hm:Jam (Zy (Je p) p.ins.length 0 (fun _=>none) p.eqs).2 p.ins.length ((Je p).drop p.ins.length) with
 | some k=>simp
 | none=>rw [hm] at h;simp at h
end Go.Proofs.YtdgjplldlfeolaaGreatDoor
