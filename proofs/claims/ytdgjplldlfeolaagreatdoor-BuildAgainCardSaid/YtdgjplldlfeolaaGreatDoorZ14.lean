/- Lemmas. -/
import Derived.Test.YtdgjplldlfeolaaGreatDoorZ11
import Derived.Test.YtdgjplldlfeolaaGreatDoorZ08
import Derived.Test.YtdgjplldlfeolaaGreatDoorZ10
import Derived.Test.YtdgjplldlfeolaaGreatDoorZ07
import Derived.Test.YtdgjplldlfeolaaGreatDoorZ09
import Derived.Test.YtdgjplldlfeolaaGreatDoorZ01
import Derived.Test.YtdgjplldlfeolaaGreatDoorRows
import Derived.Test.YtdgjplldlfeolaaGreatDoorZ03
set_option linter.unusedVariables false
set_option linter.unusedSimpArgs false
set_option maxRecDepth 100000
set_option maxHeartbeats 64000000
namespace Go.Proofs.YtdgjplldlfeolaaGreatDoor
open Go.RowKit Go.Sort
theorem Jzf (e:Ex) (l:List Va) (A:Option Addr) (cap B:Nat) (Ae:Option Addr) (ce:Nat) (w:World) (h:(Ex.typL l e.sub).2≠0) (av:Q7 e l A cap B Ae ce w) :
  Calls Tryz.prog 139 #[Q6 l A cap B,exV e Ae ce] w fun r w'=>r = .returned (.tuple #[.int .i64 (e.typ l).1,.int .i64 (e.typ l).2])/\Below w.heap.size w w':=by
 have hv:e.typ l=(0,(Ex.typL l e.sub).2):=by rw [Ex.typ_eq,if_neg h]
 have hb:((Ex.typL l e.sub).2 != 0)=true:=by simpa using h
 clear h;have HV:=Lib.hid hv;clear hv;unfold Q7 at av;unfold Q6 exV at *
 go_enter Tryz.func139,Tryz.ntmps139
 go_wp2_with (go_at_call 148;refine(av _ Jb).mono ?_;rintro r w1 ⟨⟨v,rfl,ae⟩,ac⟩;have ak:=Jg ac)
 go_ret2
 exact⟨by rw [HV.out];rfl,Jb⟩
theorem Jux (e:Ex) (l:List Va) (A:Option Addr) (cap B:Nat) (Ae:Option Addr) (ce:Nat) (w:World) (h:(Ex.typL l e.sub).2=0) (dI:e.name.toList.isEmpty=false) (nP:(K7 l e.name).2=false)
  (av:Q7 e l A cap B Ae ce w) (aF:Xz e l A cap B w) :
  Calls Tryz.prog 139 #[Q6 l A cap B,exV e Ae ce] w fun r w'=>r = .returned (.tuple #[.int .i64 (e.typ l).1,.int .i64 (e.typ l).2])/\Below w.heap.size w w':=by
 have hv:e.typ l=(0,19):=by rw [Ex.typ_eq,if_pos h,Y2,if_pos ⟨dI,nP⟩]
 have HV:=Lib.hid hv;clear hv;unfold Q7 at av;unfold Xz at aF;unfold Q6 exV at *
 go_enter Tryz.func139,Tryz.ntmps139
 go_wp2_with (first|(go_at_call 148;refine(av _ Jb).mono ?_;rintro r w1 ⟨⟨v,rfl,ae⟩,ac⟩;have ak:=Jg ac;have af:=ac.size;(try simp at af);have bV:=alt ac)|(go_at_call 149;refine mo (aF _ Jb) fun w1 ac ak af bV=>?_;(try simp at af)))
 go_ret2
 exact⟨by rw [HV.out];rfl,Jb⟩
theorem Ji9 {e:Ex} (h:e.formed=true):((Jw e.kind).2.2.2.1=true->e.name.toList.isEmpty=false)/\((Jw e.kind).2.2.2.1=false->e.name.toList.isEmpty=true):=by
 rw [Ex.formed_eq,Bool.and_eq_true] at h;have h1:=h.1;simp only [Jl,Bool.and_eq_true,Bool.or_eq_true] at h1;refine⟨fun h2=>?_,fun h2=>?_⟩
 ·have h3:=h1.1.2;rw [h2] at h3;have h4:Kz e.name=true:=by simpa using h3.symm
  unfold Kz at h4
  split at h4
  ·rename_i h5;exact Jfp h5
  ·simp at h4
 ·rcases h1.2 with h3|h3
  ·rw [h2] at h3;simp at h3
  ·exact h3
theorem Jni {e:Ex} (h:e.formed=true) (hk:e.kind=4):e.n=1\/e.n=2:=by
 rw [Ex.formed_eq,Bool.and_eq_true] at h;have h1:=h.1;rw [Jl,hk] at h1;simp [Jw] at h1;omega
theorem Jx0 (n t:Int) (h:t=1\/t=2):(Jcg n t).1=1\/(Jcg n t).1=2:=by
 unfold Jcg
 repeat' split
 all_goals simp [h]
theorem Juz (e:Ex):e.formed=true->∀(l:List Va) (A:Option Addr) (cap B n:Nat) (Ae:Option Addr) (ce:Nat) (w:World),Jt w e Ae ce->Jdw w l A cap B n->
  Calls Tryz.prog 139 #[Q6 l A cap B,exV e Ae ce] w fun r w'=>r = .returned (.tuple #[.int .i64 (e.typ l).1,.int .i64 (e.typ l).2])/\Below w.heap.size w w':=by
 induction e using Ex.ind with
 | h e ih=>
 intro hf l A cap B n Ae ce w he hl;have ai:=Ex.formed_kind hf
 have fD:e.sub.length<=3:=by
  have ai:=ai.1;unfold Jw at ai
  repeat' split at ai
  all_goals first|omega|(simp at ai;omega)
 have av:Q7 e l A cap B Ae ce w:=fun W h=>
  Jvu e l A cap B n Ae ce W (he.later h) (hl.later h) fD fun x hx A' c' W' h1 h2=>ih x hx (Ex.formed_sub hf hx) l A cap B n A' c' W' h1 h2
 have aF:Xz e l A cap B w:=fun W h=>Jr8 l A cap B n e.name (by unfold maxLen;omega) W (hl.later h)
 by_cases fK:(Ex.typL l e.sub).2=0
 case neg=>exact Jzf e l A cap B Ae ce w fK av
 have aO:=Ji9 hf;have aU:(Ex.typL l e.sub).1.length=e.sub.length:=Jj4 l e.sub fK;have eG:=Jl8 l e.sub fK;have ci:Ex.typL l e.sub=((Ex.typL l e.sub).1,0):=by rw [<-fK]
 by_cases oG:e.name.toList.isEmpty=false/\(K7 l e.name).2=false
 ·exact Jux e l A cap B Ae ce w fK oG.1 oG.2 av aF
 have rC:e.name.toList.isEmpty=false->(K7 l e.name).2=true:=fun h=>by
  cases h2:(K7 l e.name).2
  ·exact absurd ⟨h,h2⟩ oG
  ·rfl
 generalize (Ex.typL l e.sub).1=ts at aU eG ci;have cD:=ai.1
 rcases Jbc hf with hk|hk|hk|hk|hk|hk|hk|hk|hk|hk <;> rw [hk] at cD aO <;> simp [Jw] at cD aO
 ·obtain rfl:ts = []:=List.length_eq_zero_iff.1 (by rw [aU,cD];rfl);exact Jzt e l A cap B Ae ce w hk ci (by simpa using aO) av aF
 ·obtain rfl:ts = []:=List.length_eq_zero_iff.1 (by rw [aU,cD];rfl);exact Jzr e l A cap B Ae ce w hk ci (by simpa using aO) av aF
 ·obtain rfl:ts = []:=List.length_eq_zero_iff.1 (by rw [aU,cD];rfl);have hn:e.name.toList.isEmpty=false:=by simpa using aO
  exact Jzx e l A cap B Ae ce w hk ci hn (rC hn) av aF
 ·obtain⟨t0,rfl⟩:=Jcd (l:=ts) (by omega);exact Kac e l A cap B Ae ce w t0 hk ci (eG _ (by simp)) (Jni hf hk) (by simpa using aO) av aF
 ·obtain⟨t0,t1,rfl⟩:=Jcn (l:=ts) (by omega);exact Jz2 e l A cap B Ae ce w t0 t1 hk ci (eG _ (by simp)) (eG _ (by simp)) (Jx0 _ _ (eG _ (by simp))) (by simpa using aO) av aF
 ·obtain⟨t0,t1,t2,rfl⟩:=Jn6 (l:=ts) (by omega);exact Jzv e l A cap B Ae ce w t0 t1 t2 hk ci (eG _ (by simp)) (eG _ (by simp)) (eG _ (by simp)) (by simpa using aO) av aF
 ·obtain⟨t0,t1,rfl⟩:=Jcn (l:=ts) (by omega);exact Jzu e l A cap B Ae ce w t0 t1 hk ci (eG _ (by simp)) (eG _ (by simp)) (by simpa using aO) av aF
 ·obtain⟨t0,rfl⟩:=Jcd (l:=ts) (by omega);have hn:e.name.toList.isEmpty=false:=by simpa using aO
  exact Kag e l A cap B Ae ce w t0 hk ci (eG _ (by simp)) hn (rC hn) av aF
 ·obtain⟨t0,rfl⟩:=Jcd (l:=ts) (by omega);have hn:e.name.toList.isEmpty=false:=by simpa using aO
  exact Kab e l A cap B Ae ce w t0 hk ci (eG _ (by simp)) hn (rC hn) av aF
 ·obtain⟨t0,t1,rfl⟩:=Jcn (l:=ts) (by omega);have hn:e.name.toList.isEmpty=false:=by simpa using aO
  exact Jzp e l A cap B Ae ce w t0 t1 hk ci (eG _ (by simp)) (eG _ (by simp)) hn (rC hn) av aF
theorem Jpd (q:Qe) (hq:eqB q=true) (l:List Va) (A:Option Addr) (cap B n:Nat) (E1:Option Addr) (k1:Nat) (E2:Option Addr) (k2:Nat) (ins:Int) (Bd nd:Nat) (fd:ByteArray->Option Int) (w:World)
  (h1:Jt w q.first E1 k1) (h2:Jt w q.e E2 k2) (hl:Jdw w l A cap B n) (hd:Jz Tryz.prog 9 3 w Bd nd fd) :
  Calls Tryz.prog 143 #[Q6 l A cap B,qeV q E1 k1 E2 k2,.int .i64 ins,.map (some Bd)] w fun r w'=>r = .returned (.int .i64 (eqE l ins fd q))/\Below w.heap.size w w':=by
 obtain⟨qL,cM,ju,ji,cH⟩:=Jaq hq;clear hq;have hs:q.name.size<=maxLen:=by unfold maxLen;omega
 have aD:=hl.vars.len;unfold maxLen at aD;obtain⟨fD,cG⟩:=aD;have hm:=hl.map;have hBz:=hm.lt;have hBd:=hd.lt;have gA:=fun W h=>Juz q.e cM l A cap B n E2 k2 W (h2.later h) (hl.later h)
 have ey:q.delay=1->∀W,Below w.heap.size w W->Calls Tryz.prog 139 #[Q6 l A cap B,exV q.first E1 k1] W fun r w'=>r = .returned (.tuple #[.int .i64 (q.first.typ l).1,.int .i64 (q.first.typ l).2])/\Below W.heap.size W w':=
  fun js W h=>Juz q.first (ji js).1 l A cap B n E1 k1 W (h1.later h) (hl.later h)
 clear ji cM ju qL;have hv:eqE l ins fd q=eqE l ins fd q:=rfl;rw (occs:= .pos [2]) [eqE] at hv;unfold Q6 qeV exV at *
 cases hf:Qi l q.name with
 | none=>
  rw [hf] at hv;clear ey;dsimp only at hv;have HV:=Lib.hid hv;clear hv
  go_enter Tryz.func143,Tryz.ntmps143
  go_wp2_with (first|(at_lookup;refine Qh rfl (.tmp 17) (.tmp 19) 177 rfl Tryz.underlying9 Tryz.underlying177 Tryz.underlying3 (Kj _) B n (Qi l) q.name rfl (by repeat (first|(with_reducible assumption)|refine Jz.alloc ?_|refine Jz.bel ?_ (by with_reducible assumption)|refine Jz.drew ?_)) rfl hs ?_)|(at_lookup;refine Qb rfl (.tmp 32) (.tmp 34) 177 rfl Tryz.underlying9 Tryz.underlying177 Tryz.underlying3 (Kj _) Bd nd fd q.name rfl (by repeat (first|(with_reducible assumption)|refine Jz.alloc ?_|refine Jz.bel ?_ (by with_reducible assumption)|refine Jz.drew ?_)) rfl hs ?_)|(go_at_call_of 139 E2;refine mo (gA _ Jb) fun w1 ac ak af bV=>?_;(try simp at af);(try have bV:=lt0 w w1);(try have gq:=ltA w 1 w1);(try have ow:=ltA w 2 w1);(try have ns:=lt0 wr w1);(try have nt:=ltA wr 1 w1);(try have cA:b<w1.heap.size:=by omega))|(go_at_call_of 139 E1;refine mo (ey _ Jb) fun w1 ac ak af bV=>?_;(try simp at af);(try have bV:=lt0 w w1);(try have gq:=ltA w 1 w1);(try have ow:=ltA w 2 w1);(try have ns:=lt0 wr w1);(try have nt:=ltA wr 1 w1);(try have cA:b<w1.heap.size:=by omega)))
  go_ret;exact⟨Jm HV.out.symm,Jb⟩
 | some j=>
  rw [hf] at hv;dsimp only at hv;obtain⟨k,v,rfl,hx,_⟩:=Zi hf;have fR:k<l.length:=(List.getElem?_eq_some_iff.1 hx).1;obtain⟨b,off,rfl,aH,⟨d0,d1,d2,d3⟩⟩:=hl.vars.get hx;have rD:Zz l k=v.type:=by unfold Zz;rw [Int.toNat_natCast,hx]
  rw [rD] at hv;clear hx rD;have bG:b<w.heap.size+1:=by omega
  have ur:b<w.heap.size+2:=by omega
  by_cases c1:(k:Int)<ins
  ·rw [if_pos c1] at hv;clear ey;have HV:=Lib.hid hv;clear hv
   go_enter Tryz.func143,Tryz.ntmps143
   go_wp2_with (first|(at_lookup;refine Qh rfl (.tmp 17) (.tmp 19) 177 rfl Tryz.underlying9 Tryz.underlying177 Tryz.underlying3 (Kj _) B n (Qi l) q.name rfl (by repeat (first|(with_reducible assumption)|refine Jz.alloc ?_|refine Jz.bel ?_ (by with_reducible assumption)|refine Jz.drew ?_)) rfl hs ?_)|(at_lookup;refine Qb rfl (.tmp 32) (.tmp 34) 177 rfl Tryz.underlying9 Tryz.underlying177 Tryz.underlying3 (Kj _) Bd nd fd q.name rfl (by repeat (first|(with_reducible assumption)|refine Jz.alloc ?_|refine Jz.bel ?_ (by with_reducible assumption)|refine Jz.drew ?_)) rfl hs ?_)|(go_at_call_of 139 E2;refine mo (gA _ Jb) fun w1 ac ak af bV=>?_;(try simp at af);(try have bV:=lt0 w w1);(try have gq:=ltA w 1 w1);(try have ow:=ltA w 2 w1);(try have ns:=lt0 wr w1);(try have nt:=ltA wr 1 w1);(try have cA:b<w1.heap.size:=by omega))|(go_at_call_of 139 E1;refine mo (ey _ Jb) fun w1 ac ak af bV=>?_;(try simp at af);(try have bV:=lt0 w w1);(try have gq:=ltA w 1 w1);(try have ow:=ltA w 2 w1);(try have ns:=lt0 wr w1);(try have nt:=ltA wr 1 w1);(try have cA:b<w1.heap.size:=by omega)))
   go_ret;exact⟨Jm HV.out.symm,Jb⟩
  rw [if_neg c1] at hv
  by_cases c2:0<(fd q.name).getD 0
  ·rw [if_pos c2] at hv;clear ey;have HV:=Lib.hid hv;clear hv
   go_enter Tryz.func143,Tryz.ntmps143
   go_wp2_with (first|(at_lookup;refine Qh rfl (.tmp 17) (.tmp 19) 177 rfl Tryz.underlying9 Tryz.underlying177 Tryz.underlying3 (Kj _) B n (Qi l) q.name rfl (by repeat (first|(with_reducible assumption)|refine Jz.alloc ?_|refine Jz.bel ?_ (by with_reducible assumption)|refine Jz.drew ?_)) rfl hs ?_)|(at_lookup;refine Qb rfl (.tmp 32) (.tmp 34) 177 rfl Tryz.underlying9 Tryz.underlying177 Tryz.underlying3 (Kj _) Bd nd fd q.name rfl (by repeat (first|(with_reducible assumption)|refine Jz.alloc ?_|refine Jz.bel ?_ (by with_reducible assumption)|refine Jz.drew ?_)) rfl hs ?_)|(go_at_call_of 139 E2;refine mo (gA _ Jb) fun w1 ac ak af bV=>?_;(try simp at af);(try have bV:=lt0 w w1);(try have gq:=ltA w 1 w1);(try have ow:=ltA w 2 w1);(try have ns:=lt0 wr w1);(try have nt:=ltA wr 1 w1);(try have cA:b<w1.heap.size:=by omega))|(go_at_call_of 139 E1;refine mo (ey _ Jb) fun w1 ac ak af bV=>?_;(try simp at af);(try have bV:=lt0 w w1);(try have gq:=ltA w 1 w1);(try have ow:=ltA w 2 w1);(try have ns:=lt0 wr w1);(try have nt:=ltA wr 1 w1);(try have cA:b<w1.heap.size:=by omega)))
   go_ret;exact⟨Jm HV.out.symm,Jb⟩
  rw [if_neg c2] at hv
  cases c3:((q.e.typ l).2 != 0)
  case true=>
   rw [if_pos (by simpa using c3)] at hv;clear ey;have HV:=Lib.hid hv;clear hv
   go_enter Tryz.func143,Tryz.ntmps143
   go_wp2_with (first|(at_lookup;refine Qh rfl (.tmp 17) (.tmp 19) 177 rfl Tryz.underlying9 Tryz.underlying177 Tryz.underlying3 (Kj _) B n (Qi l) q.name rfl (by repeat (first|(with_reducible assumption)|refine Jz.alloc ?_|refine Jz.bel ?_ (by with_reducible assumption)|refine Jz.drew ?_)) rfl hs ?_)|(at_lookup;refine Qb rfl (.tmp 32) (.tmp 34) 177 rfl Tryz.underlying9 Tryz.underlying177 Tryz.underlying3 (Kj _) Bd nd fd q.name rfl (by repeat (first|(with_reducible assumption)|refine Jz.alloc ?_|refine Jz.bel ?_ (by with_reducible assumption)|refine Jz.drew ?_)) rfl hs ?_)|(go_at_call_of 139 E2;refine mo (gA _ Jb) fun w1 ac ak af bV=>?_;(try simp at af);(try have bV:=lt0 w w1);(try have gq:=ltA w 1 w1);(try have ow:=ltA w 2 w1);(try have ns:=lt0 wr w1);(try have nt:=ltA wr 1 w1);(try have cA:b<w1.heap.size:=by omega))|(go_at_call_of 139 E1;refine mo (ey _ Jb) fun w1 ac ak af bV=>?_;(try simp at af);(try have bV:=lt0 w w1);(try have gq:=ltA w 1 w1);(try have ow:=ltA w 2 w1);(try have ns:=lt0 wr w1);(try have nt:=ltA wr 1 w1);(try have cA:b<w1.heap.size:=by omega)))
   go_ret;exact⟨Jm HV.out.symm,Jb⟩
  rw [if_neg (by simpa using c3)] at hv
  by_cases qd:q.delay=1
  ·replace ey:=ey qd;have q1:(q.delay == 1)=true:=by rw [qd];rfl
   cases c4:((q.first.typ l).1 != v.type)
   case true=>
    rw [if_pos ⟨qd,by simpa using c4⟩] at hv;clear qd;have HV:=Lib.hid hv;clear hv
    go_enter Tryz.func143,Tryz.ntmps143
    go_wp2_with (first|(at_lookup;refine Qh rfl (.tmp 17) (.tmp 19) 177 rfl Tryz.underlying9 Tryz.underlying177 Tryz.underlying3 (Kj _) B n (Qi l) q.name rfl (by repeat (first|(with_reducible assumption)|refine Jz.alloc ?_|refine Jz.bel ?_ (by with_reducible assumption)|refine Jz.drew ?_)) rfl hs ?_)|(at_lookup;refine Qb rfl (.tmp 32) (.tmp 34) 177 rfl Tryz.underlying9 Tryz.underlying177 Tryz.underlying3 (Kj _) Bd nd fd q.name rfl (by repeat (first|(with_reducible assumption)|refine Jz.alloc ?_|refine Jz.bel ?_ (by with_reducible assumption)|refine Jz.drew ?_)) rfl hs ?_)|(go_at_call_of 139 E2;refine mo (gA _ Jb) fun w1 ac ak af bV=>?_;(try simp at af);(try have bV:=lt0 w w1);(try have gq:=ltA w 1 w1);(try have ow:=ltA w 2 w1);(try have ns:=lt0 wr w1);(try have nt:=ltA wr 1 w1);(try have cA:b<w1.heap.size:=by omega))|(go_at_call_of 139 E1;refine mo (ey _ Jb) fun w1 ac ak af bV=>?_;(try simp at af);(try have bV:=lt0 w w1);(try have gq:=ltA w 1 w1);(try have ow:=ltA w 2 w1);(try have ns:=lt0 wr w1);(try have nt:=ltA wr 1 w1);(try have cA:b<w1.heap.size:=by omega)))
    go_ret;exact⟨Jm HV.out.symm,Jb⟩
   rw [if_neg (by rintro⟨_,h⟩;exact h (by simpa using c4))] at hv;clear qd
   cases c5:((q.e.typ l).1 != v.type)
   case true=>
    rw [if_pos (by simpa using c5)] at hv;have HV:=Lib.hid hv;clear hv
    go_enter Tryz.func143,Tryz.ntmps143
    go_wp2_with (first|(at_lookup;refine Qh rfl (.tmp 17) (.tmp 19) 177 rfl Tryz.underlying9 Tryz.underlying177 Tryz.underlying3 (Kj _) B n (Qi l) q.name rfl (by repeat (first|(with_reducible assumption)|refine Jz.alloc ?_|refine Jz.bel ?_ (by with_reducible assumption)|refine Jz.drew ?_)) rfl hs ?_)|(at_lookup;refine Qb rfl (.tmp 32) (.tmp 34) 177 rfl Tryz.underlying9 Tryz.underlying177 Tryz.underlying3 (Kj _) Bd nd fd q.name rfl (by repeat (first|(with_reducible assumption)|refine Jz.alloc ?_|refine Jz.bel ?_ (by with_reducible assumption)|refine Jz.drew ?_)) rfl hs ?_)|(go_at_call_of 139 E2;refine mo (gA _ Jb) fun w1 ac ak af bV=>?_;(try simp at af);(try have bV:=lt0 w w1);(try have gq:=ltA w 1 w1);(try have ow:=ltA w 2 w1);(try have ns:=lt0 wr w1);(try have nt:=ltA wr 1 w1);(try have cA:b<w1.heap.size:=by omega))|(go_at_call_of 139 E1;refine mo (ey _ Jb) fun w1 ac ak af bV=>?_;(try simp at af);(try have bV:=lt0 w w1);(try have gq:=ltA w 1 w1);(try have ow:=ltA w 2 w1);(try have ns:=lt0 wr w1);(try have nt:=ltA wr 1 w1);(try have cA:b<w1.heap.size:=by omega)))
    go_ret;exact⟨Jm HV.out.symm,Jb⟩
   rw [if_neg (by simpa using c5)] at hv;have HV:=Lib.hid hv;clear hv
   go_enter Tryz.func143,Tryz.ntmps143
   go_wp2_with (first|(at_lookup;refine Qh rfl (.tmp 17) (.tmp 19) 177 rfl Tryz.underlying9 Tryz.underlying177 Tryz.underlying3 (Kj _) B n (Qi l) q.name rfl (by repeat (first|(with_reducible assumption)|refine Jz.alloc ?_|refine Jz.bel ?_ (by with_reducible assumption)|refine Jz.drew ?_)) rfl hs ?_)|(at_lookup;refine Qb rfl (.tmp 32) (.tmp 34) 177 rfl Tryz.underlying9 Tryz.underlying177 Tryz.underlying3 (Kj _) Bd nd fd q.name rfl (by repeat (first|(with_reducible assumption)|refine Jz.alloc ?_|refine Jz.bel ?_ (by with_reducible assumption)|refine Jz.drew ?_)) rfl hs ?_)|(go_at_call_of 139 E2;refine mo (gA _ Jb) fun w1 ac ak af bV=>?_;(try simp at af);(try have bV:=lt0 w w1);(try have gq:=ltA w 1 w1);(try have ow:=ltA w 2 w1);(try have ns:=lt0 wr w1);(try have nt:=ltA wr 1 w1);(try have cA:b<w1.heap.size:=by omega))|(go_at_call_of 139 E1;refine mo (ey _ Jb) fun w1 ac ak af bV=>?_;(try simp at af);(try have bV:=lt0 w w1);(try have gq:=ltA w 1 w1);(try have ow:=ltA w 2 w1);(try have ns:=lt0 wr w1);(try have nt:=ltA wr 1 w1);(try have cA:b<w1.heap.size:=by omega)))
   go_ret;exact⟨Jm HV.out.symm,Jb⟩
  ·clear ey;have q1:(q.delay == 1)=false:=by simpa using qd
   rw [if_neg (by rintro⟨h,_⟩;exact qd h)] at hv;clear qd
   cases c5:((q.e.typ l).1 != v.type)
   case true=>
    rw [if_pos (by simpa using c5)] at hv;have HV:=Lib.hid hv;clear hv
    go_enter Tryz.func143,Tryz.ntmps143
    go_wp2_with (first|(at_lookup;refine Qh rfl (.tmp 17) (.tmp 19) 177 rfl Tryz.underlying9 Tryz.underlying177 Tryz.underlying3 (Kj _) B n (Qi l) q.name rfl (by repeat (first|(with_reducible assumption)|refine Jz.alloc ?_|refine Jz.bel ?_ (by with_reducible assumption)|refine Jz.drew ?_)) rfl hs ?_)|(at_lookup;refine Qb rfl (.tmp 32) (.tmp 34) 177 rfl Tryz.underlying9 Tryz.underlying177 Tryz.underlying3 (Kj _) Bd nd fd q.name rfl (by repeat (first|(with_reducible assumption)|refine Jz.alloc ?_|refine Jz.bel ?_ (by with_reducible assumption)|refine Jz.drew ?_)) rfl hs ?_)|(go_at_call_of 139 E2;refine mo (gA _ Jb) fun w1 ac ak af bV=>?_;(try simp at af);(try have bV:=lt0 w w1);(try have gq:=ltA w 1 w1);(try have ow:=ltA w 2 w1);(try have ns:=lt0 wr w1);(try have nt:=ltA wr 1 w1);(try have cA:b<w1.heap.size:=by omega))|(go_at_call_of 139 E1;refine mo (ey _ Jb) fun w1 ac ak af bV=>?_;(try simp at af);(try have bV:=lt0 w w1);(try have gq:=ltA w 1 w1);(try have ow:=ltA w 2 w1);(try have ns:=lt0 wr w1);(try have nt:=ltA wr 1 w1);(try have cA:b<w1.heap.size:=by omega)))
    go_ret;exact⟨Jm HV.out.symm,Jb⟩
   rw [if_neg (by simpa using c5)] at hv;have HV:=Lib.hid hv;clear hv
   go_enter Tryz.func143,Tryz.ntmps143
   go_wp2_with (first|(at_lookup;refine Qh rfl (.tmp 17) (.tmp 19) 177 rfl Tryz.underlying9 Tryz.underlying177 Tryz.underlying3 (Kj _) B n (Qi l) q.name rfl (by repeat (first|(with_reducible assumption)|refine Jz.alloc ?_|refine Jz.bel ?_ (by with_reducible assumption)|refine Jz.drew ?_)) rfl hs ?_)|(at_lookup;refine Qb rfl (.tmp 32) (.tmp 34) 177 rfl Tryz.underlying9 Tryz.underlying177 Tryz.underlying3 (Kj _) Bd nd fd q.name rfl (by repeat (first|(with_reducible assumption)|refine Jz.alloc ?_|refine Jz.bel ?_ (by with_reducible assumption)|refine Jz.drew ?_)) rfl hs ?_)|(go_at_call_of 139 E2;refine mo (gA _ Jb) fun w1 ac ak af bV=>?_;(try simp at af);(try have bV:=lt0 w w1);(try have gq:=ltA w 1 w1);(try have ow:=ltA w 2 w1);(try have ns:=lt0 wr w1);(try have nt:=ltA wr 1 w1);(try have cA:b<w1.heap.size:=by omega))|(go_at_call_of 139 E1;refine mo (ey _ Jb) fun w1 ac ak af bV=>?_;(try simp at af);(try have bV:=lt0 w w1);(try have gq:=ltA w 1 w1);(try have ow:=ltA w 2 w1);(try have ns:=lt0 wr w1);(try have nt:=ltA wr 1 w1);(try have cA:b<w1.heap.size:=by omega)))
   go_ret;exact⟨Jm HV.out.symm,Jb⟩
theorem Jq5 {P:Program} {f:FuncId} {args:Array Value} {R:Ending->World->Prop} {W:World} (h:∀W0,W0=W->Calls P f args W0 R):Calls P f args W R:=h W rfl
theorem Jvk (e:Ex) (A:Option Addr) (cap:Nat) (w:World) (he:Jt w e A cap) (aw:e.OK) (hz:e.size<=1000000) :
  Calls Tryz.prog 136 #[exV e A cap] w fun r w'=>(∃v,r = .returned v/\w'.ownsRow w.heap.size 9 1 v (Kx e).length ((Kx e).map .string))/\Below w.heap.size w w':=by
 have li:=fun W h=>Jru e A cap 121 W (he.later h) (by omega) (by omega);have ct:=Ex.count_bd e 121;have hv:Kx e=if 120<e.count 121 then [] else e.named []:=rfl;generalize e.count 121=c at *
 by_cases hc:120<c
 ·rw [if_pos hc] at hv;unfold exV at *;have HV:=Lib.hid hv;clear hv
  go_enter Tryz.func136,Tryz.ntmps136
  go_wp2_with (first|(go_at_call 146;refine mo (li _ Jb) fun w1 ac ak af bV=>?_;(try simp at af);(try have bV:=lt0 w w1);(try have gq:=ltA w 1 w1);(try have ow:=ltA w 2 w1);(try have ns:=lt0 wr w1);(try have nt:=ltA wr 1 w1)))
  go_ret;exact⟨⟨_,rfl,by rw [HV.out];exact World.ownsRow_nil _ _ _ _⟩,Jb⟩
 ·rw [if_neg hc] at hv;have fP:=Lib.hid (fun(bs bo bw B base:Nat) (uL:bs<base) (cW:bo<base) (aC:bw<base) (hB:B<base) (n1:bs≠bo) (n2:bs≠B) (n3:bw≠bo) (n4:bw≠B) (n5:bo≠B) (w0:World) (m1:w0.heap.size<=bo) (m2:w0.heap.size<=B) (m3:w0.heap.size<=base)=>Jvx bs bo bw B base uL cW aC hB n1 n2 n3 n4 n5 w0 m1 m2 m3 e aw);have HE:=Lib.hid he;clear aw he;unfold exV at *;have HV:=Lib.hid hv;clear hv;have gI:=@run_makeMap Tryz.prog;have gZ:∀(fn:Fn) (first cap:Array Value) (w:World),(Instr.makeFunc fn first cap).run Tryz.prog w = .ok (.func fn first cap) w:=fun _ _ _ _=>rfl;have hsf:=fun(a:Addr) (fn:Fn) (x y:Array Value) (m:Mode) (w:World)=>run_store Tryz.prog w a (.func fn x y) m rfl
  go_enter Tryz.func136,Tryz.ntmps136
  go_wp2_with (first|(go_at_call 146;refine(li _ Jb).mono ?_;rintro r w1 ⟨rfl,ac⟩;have ak:=Jg ac;have af:=ac.size;(try simp at af);have bV:w.heap.size<w1.heap.size:=(by omega);have gq:w.heap.size<w1.heap.size+1:=(by omega);have ow:w.heap.size<w1.heap.size+1+1:=(by omega);have ns:w.heap.size<w1.heap.size+1+1+1:=(by omega);have nt:¬w1.heap.size+1+1+1=w.heap.size:=(by omega)))
  refine Jq5 fun Wc tp=>?_;have bU:Below w1.heap.size w1 Wc:=by rw [tp];exact Jc (Jc (Jc (Jc (Below.refl _ _) _) _) _) _
  have gS:Below w.heap.size w w1:=Jb;have hbwc:Below w.heap.size w Wc:=Jd gS bU;have iG:Wc.heap.size=w1.heap.size+4:=by rw [tp];simp
  have cP:NSt (w1.heap.size+1+1) w1.heap.size (w1.heap.size+1+1+1) (w1.heap.size+1) (w1.heap.size+4) Wc (.slice none 0 0) [] (fun _=>none) 0 0:=by
   refine⟨by rw [tp];go_simp,?_,by rw [tp];go_simp,by rw [tp];go_simp,by rw [tp];unfold Jg0;go_simp,World.ownsRow_nil _ _ _ _,fun s=>⟨fun h=>by simp [Ka] at h,fun _=>rfl,by simp⟩,by omega⟩;rw [tp];have:=(Jz.made (P:=Tryz.prog) (k:=9) (e:=3) (w1.alloc (.cells #[.slice none 0 0] 119))).alloc (o:= .cells #[.map (some (w1.heap.size+1))] 177);have h2:=this.alloc (o:= .cells #[.func (.func 147) #[] #[.pointer (some ⟨w1.heap.size+1+1,0,none⟩),.pointer (some ⟨w1.heap.size,0,none⟩),.pointer (some ⟨w1.heap.size+1+1+1,0,none⟩)]] 262);simpa using h2
  have he1:=HE.out.later gS;clear tp gZ gI hsf;refine((fP.out (w1.heap.size+1+1) w1.heap.size (w1.heap.size+1+1+1) (w1.heap.size+1) (w1.heap.size+4) (by omega) (by omega) (by omega) (by omega) (by omega) (by omega) (by omega) (by omega) (by omega) w1 (by omega) (by omega) (by omega)) A cap he1 Wc (.slice none 0 0) [] (fun _=>none) 0 0 bU cP (by simpa using hz) (by simpa using hz) (by simpa using hz)).mono ?_;rintro r w3 ⟨rfl,⟨v3,d3,n3,ft,sR,fv⟩,ja⟩;have ko:=ft.out;have cJ:=Lib.hid ft;have HCH:=Lib.hid ja;clear ft ja cP fv
  go_wp2_with fail
  go_ret;exact⟨⟨_,rfl,by rw [HV.out];exact K8 cJ.out.own (by omega)⟩,Jd2 (base:=w1.heap.size+4) hbwc HCH.out (by omega) (by omega) (fun b hb=>by simp [Value.ownBlock] at hb)⟩
def Yq (w:World) (l:List Int) (A:Option Addr) (cap:Nat):Prop:=
 l.length<=cap/\cap<=maxLen/\(0<l.length->∃b off,A=some ⟨b,off,none⟩/\∀(k:Nat) (x:Int),l[k]?=some x->w.cell? ⟨b,off+k,none⟩=some (.int .i64 x))
theorem Yq.later {w w':World} {l:List Int} {A:Option Addr} {cap:Nat} (h:Yq w l A cap) (hb:Below w.heap.size w w'):Yq w' l A cap:=
 ⟨h.1,h.2.1,fun hl=>by
  obtain⟨b,off,hA,hr⟩:=h.2.2 hl;exact⟨b,off,hA,fun k s hk=>Ja hb (hr k s hk)⟩⟩
theorem Yq.drewN {w:World} {l:List Int} {A:Option Addr} {cap:Nat} (h:Yq w l A cap) (n:Nat):Yq (w.drewN n) l A cap:=h.later (J8 (Below.refl _ _) n)
theorem Yq.get {w:World} {l:List Int} {A:Option Addr} {cap k:Nat} {x:Int} (h:Yq w l A cap) (hk:l[k]?=some x):∃b off,A=some ⟨b,off,none⟩/\b<w.heap.size/\w.cell? ⟨b,off+k,none⟩=some (.int .i64 x):=by
 have am:k<l.length:=(List.getElem?_eq_some_iff.1 hk).1;obtain⟨b,off,hA,hr⟩:=h.2.2 (by omega);exact⟨b,off,hA,block_lt_of_cell (hr k x hk),hr k x hk⟩
theorem Yq.of_own {w:World} {base:Nat} {e:TypeId} {l:List Int} {A:Option Addr} {cap:Nat} (h:w.ownsRow base e 1 (.slice A l.length cap) l.length (l.map (.int .i64))):Yq w l A cap:=by
 rcases Nat.eq_zero_or_pos l.length with h0|h0
 ·obtain⟨A',c',hv,h1,h2⟩:=Jv h;injection hv with e1 e2 e3;subst e3;exact⟨h1,h2,fun hl=>absurd hl (by omega)⟩
 ·obtain⟨g,c',hv,_,_,h1,h2,hc⟩:=Kc h h0;injection hv with e1 e2 e3;subst e1 e3;refine⟨h1,h2,fun _=>⟨g,0,rfl,fun k s hk=>?_⟩⟩;rw [Nat.zero_add];exact hc k _ (by simp [hk])
def Jb2 (d:ByteArray->Option Int) (l:List ByteArray):Bool:=l.all fun s=>!(d s).isSome
theorem Jf0 (l:List ByteArray) (A:Option Addr) (cap:Nat) (B n:Nat) (d:ByteArray->Option Int) (w:World) (hl:Qf w l A cap) (hm:Jz Tryz.prog 9 3 w B n d) (hs:∀s∈l,s.size<=maxLen) :
  Calls Tryz.prog 123 #[.map (some B),.slice A l.length cap] w fun r w'=>r = .returned (.bool (Jb2 d l))/\Below w.heap.size w w':=by
 have ai:=hl.len;unfold maxLen at ai;obtain⟨jD,jE⟩:=ai;have HS:=Lib.hid hs;clear hs
 go_enter Tryz.func123,Tryz.ntmps123
 go_wp2_with fail
 go_loopw [4,11] (fun o i wr=>∃k:Nat,k<=l.length/\i = .int .i64 k/\o = .bool false/\Jb2 d (l.drop k)=Jb2 d l/\Below w.heap.size w wr) (fun _ i _=>l.length-(intOf i).toNat)
 case atStart=>exact⟨0,Nat.zero_le _,rfl,rfl,rfl,Jb⟩
 case round=>
  obtain⟨k,hk,rfl,rfl,aa,ab⟩:=hrel;have ej:=hm.bel ab
  by_cases am:k<l.length
  ·have hx:l[k]?=some l[k]:=List.getElem?_eq_getElem am;have aj:l[k]∈l:=List.getElem_mem am;have hd:l.drop k=l[k] :: l.drop (k+1):=List.drop_eq_getElem_cons am;generalize l[k]=x at hx hd aj;have dT:=HS.out x aj;obtain⟨b,off,rfl,aH,d0⟩:=(hl.later ab).get hx;rw [hd] at aa;rw [show Jb2 d (x :: l.drop (k+1))=(!(d x).isSome && Jb2 d (l.drop (k+1))) from rfl] at aa;clear hd hx aj
   cases dj:(d x).isSome
   ·rw [dj,Bool.not_false,Bool.true_and] at aa;have HR:=Lib.hid aa;clear aa
    go_wp2_with (first|(at_lookup;refine Qh rfl (.tmp 16) (.tmp 17) 235 rfl Tryz.underlying9 Tryz.underlying235 Tryz.underlying3 (Kj _) B n d x rfl ej rfl dT ?_))
    go_roundw
    case rel=>exact⟨k+1,by omega,by go_num,rfl,HR.out,Jb⟩
    case measure=>simp [intOf];omega
   ·rw [dj,Bool.not_true,Bool.false_and] at aa;have HR:=Lib.hid aa;clear aa
    go_wp2_with (first|(at_lookup;refine Qh rfl (.tmp 16) (.tmp 17) 235 rfl Tryz.underlying9 Tryz.underlying235 Tryz.underlying3 (Kj _) B n d x rfl ej rfl dT ?_))
    go_ret;exact⟨Jk HR.out,Jb⟩
  ·obtain rfl:k=l.length:=by omega
   rw [List.drop_length] at aa;have HR:=Lib.hid aa;clear aa
   go_wp2_with fail
   go_ret;exact⟨Jk HR.out,Jb⟩
def ofR (L:List Va) (q:Qe):List ByteArray:=match Xb L q.name with|some v=>Yw (Kx q.e) v.cn|none=>Kx q.e
theorem Jmt (e:Ex):(Kx e).length<=e.size:=by
 unfold Kx
 split
 ·simp
 ·have:=(Ex.named_len e []).2;simpa using this
end Go.Proofs.YtdgjplldlfeolaaGreatDoor
