/- Lemmas. -/
import Derived.Test.YtknfcamdfdfoeaaGreatDoorMac
import Derived.Test.YtknfcamdfdfoeaaGreatDoorZ10
import Derived.Test.YtknfcamdfdfoeaaGreatDoorZ08
import Derived.Test.YtknfcamdfdfoeaaGreatDoorZ03
set_option linter.unusedVariables false
set_option linter.unusedSimpArgs false
set_option maxRecDepth 100000
set_option maxHeartbeats 64000000
namespace Go.Proofs.YtknfcamdfdfoeaaGreatDoor
open Go.RowKit Go.Sort
theorem Jjt (x:Qe) (l:List Qe) (s:ByteArray):Y3 (x :: l) s=(x.name.toList == s.toList || Y3 l s):=rfl
theorem Jny {e:Ex} (h:e.literal=true):e.right=0:=by
 unfold Ex.literal at h
 split at h
 ·assumption
 ·exact Lt
theorem Jm3 {q:Qe} (h:eqB q=true):q.e.right=0/\(q.delay=1->q.first.right=0):=by
 unfold eqB at h;simp only [Bool.and_eq_true] at h;refine⟨by simpa using h.1.2,fun hd=>?_⟩;have h2:=h.2;rw [if_pos hd] at h2;exact Jny h2
theorem Jht {e:Ex} {l:List Va} (h:e.right=0):ofF e l=e.typ l:=by unfold ofF;rw [if_neg Ua]
theorem Jvl (p:Pr) (a:PrA) (i:Nat) (q:Qe) (w:World) (hp:Kr w p a) (vM:p.eqs[i]?=some q) (hb:eqB q=true) (ln:q.first.OK) (jm:q.e.OK)
  (n1:p.ins.length<=1000000) (n2:p.outs.length<=1000000) (n3:p.locals.length<=1000000) (n4:p.eqs.length<=1000000) :
  Calls Tryz.prog 118 #[prV p a,.int .i64 i] w fun r w'=>r = .returned (.int .i64 (Je6 (Je p) p.ins.length (p.eqs.take i) q))/\Below w.heap.size w w':=by
 obtain⟨fa,fF⟩:=Jm3 hb;have aJ:=fun W h=>Z3 p a W (hp.later h) n1 n2 n3;have ap:=fun A cap W h=>Xa (Je p) A cap q.name W h;have kC:i<p.eqs.length:=(Nh vM).1;have bT:=hp.eqs;have hv:Je6 (Je p) p.ins.length (p.eqs.take i) q=Je6 (Je p) p.ins.length (p.eqs.take i) q:=rfl;rw (occs:= .pos [2]) [Je6] at hv;obtain⟨A1,c1,A2,c2,A3,c3,A4,c4⟩:=a;unfold prV at *;dsimp only at *;obtain⟨b,off,E1,k1,E2,k2,rfl,aH,⟨g0,g1,g2,g3,g4,g5,g6,g7,g8,g9,s1,s2⟩⟩:=bT.get vM;have cG:=bT.len;unfold maxLen at cG;obtain⟨fT,fU⟩:=cG;have hli:=hp.ins.len;unfold maxLen at hli;dsimp only at hli;obtain⟨hli1,hli2⟩:=hli;have gA:=fun A cap W h1 h2=>Jm9 q.e jm E2 k2 (Je p) A cap W (s2.later h1) h2;have ey:=fun A cap W h1 h2=>Jm9 q.first ln E1 k1 (Je p) A cap W (s1.later h1) h2;rw [Jht fa] at gA;clear hb hp ln jm fa vM;have jU:b<w.heap.size+1:=Ua;generalize hL:Je p=L at *;have HL:=Nf hL;clear hL;unfold exV at *
 have main:∀j:Int,Jp L q.name=j->j<p.ins.length->Calls Tryz.prog 118 #[.agg #[.string p.name,.slice A1 p.ins.length c1,.slice A2 p.outs.length c2,.slice A3 p.locals.length c3,.slice (some ⟨b,off,none⟩) p.eqs.length c4],.int .i64 i] w fun r w'=>r = .returned (.int .i64 (Je6 L p.ins.length (p.eqs.take i) q))/\Below w.heap.size w w':=by
  intro j hj jO;rw [hj] at ap hv;rw [if_pos jO] at hv;clear hj ey gA bT fF;have HV:=Nf hv;clear hv
  go_enter Tryz.func118,Tryz.ntmps118
  go_wp2_with (first|(go_at_call 26;refine(aJ _ Jb).mono ?_;rintro r wb ⟨⟨A,cap,rfl,ae⟩,bG⟩;have el:=Jg bG;have dH:=bG.size;(try simp at dH);have cA:=lt0 w wb;have oa:b<wb.heap.size:=Ua;have cR:=Ju.of_own ae)|(go_at_call 49;refine(ap _ _ _ (cR.later Jb)).mono ?_;rintro r wc ⟨rfl,bU⟩;have cB:=Jg bU;have iG:=bU.size;(try simp at iG);have kh:=lt0 w wc;have mo:=lt0 wb wc;have hyc2:b<wc.heap.size:=Ua))
  exact Udf
 cases hf:Qi L q.name with
 | none=>exact main (-1) (by unfold Jp;rw [hf];rfl) Ua
 | some j=>
  obtain⟨kk,v,rfl,hx,_⟩:=Zi hf;have cL:Jp L q.name=(kk:Int):=by unfold Jp;rw [hf];rfl
  by_cases c1':(kk:Int)<p.ins.length
  ·exact main kk cL c1'
  clear main;have fR:kk<L.length:=(Nh hx).1;have rD:Zz L kk=v.type:=by unfold Zz;rw [Int.toNat_natCast,hx]
  rw [cL,rD,if_neg c1'] at hv;rw [cL] at ap;clear hf cL rD;have HT:=Nf hv;clear hv;have c1n:decide (kk<p.ins.length)=false:=Uj
  go_enter Tryz.func118,Tryz.ntmps118
  go_wp2_with (first|(go_at_call 26;refine(aJ _ Jb).mono ?_;rintro r wb ⟨⟨A,cap,rfl,ae⟩,bG⟩;have el:=Jg bG;have dH:=bG.size;(try simp at dH);have cA:=lt0 w wb;have oa:b<wb.heap.size:=Ua;have cR:=Ju.of_own ae)|(go_at_call 49;refine(ap _ _ _ (cR.later Jb)).mono ?_;rintro r wc ⟨rfl,bU⟩;have cB:=Jg bU;have iG:=bU.size;(try simp at iG);have kh:=lt0 w wc;have mo:=lt0 wb wc;have hyc2:b<wc.heap.size:=Ua))
  refine Jo fun W0 ag=>?_;have ax:=Nd w W0 Uo;have bD:w.heap.size<W0.heap.size:=Lk;have hzb0:wb.heap.size<W0.heap.size:=Lk;have bE:Ju W0 L A cap:=Do;have p4:=Nb W0 w.heap.size 4 (.slice (some ⟨b,off,none⟩) p.eqs.length c4) Uc;have t0:=Nb W0 wb.heap.size 0 (.string q.name) Uc;have t1:=Na W0 wb.heap.size 1 q.delay Uc;have t2:=Na W0 wb.heap.size 2 q.first.kind Uc;have t3:=Nb W0 wb.heap.size 3 (.int .i32 q.first.n) Uc;have t4:=Nb W0 wb.heap.size 4 (.string q.first.name) Uc;have t5:=Nb W0 wb.heap.size 5 (.slice E1 q.first.sub.length k1) Uc;have t6:=Na W0 wb.heap.size 6 q.e.kind Uc;have t7:=Nb W0 wb.heap.size 7 (.int .i32 q.e.n) Uc;have t8:=Nb W0 wb.heap.size 8 (.string q.e.name) Uc;have t9:=Nb W0 wb.heap.size 9 (.slice E2 q.e.sub.length k2) Uc;have oc:=bT.later ax;obtain⟨bv,ov,rfl,dB,⟨d0,d1,d2,d3⟩⟩:=bE.get hx;have le:(kk:Int)<(L.length:Int):=Ua;have tkk:¬((kk:Int)<0):=Ua;have cY:=bE.len;unfold maxLen at cY;obtain⟨fH,fI⟩:=cY;clear ag ae cR el cB ap aJ hx d0 d2 d3 g0 g1 g2 g3 g4 g5 g6 g7 g8 g9 bT;have hS:=Nf (show(q.delay=1->q.first.right=0) from fF);clear fF
  go_loopw [4,8] (fun o u wr=>∃(j:Nat),j<=i/\u = .int .i64 j/\o = .int .i64 0/\Y3 ((p.eqs.take i).drop j) q.name=Y3 (p.eqs.take i) q.name/\Below W0.heap.size W0 wr) (fun _ u _=>i-(intOf u).toNat)
  case atStart=>exact⟨0,Np,rfl,rfl,rfl,Nt⟩
  case round=>
   obtain⟨j,hj,rfl,rfl,aa,ab⟩:=hrel;have hc:=Jg ab;have bu:=ab.size;have eV:=lt0 w wr;have fF:=lt0 wb wr;have fa:bv<wr.heap.size:=Ua
   by_cases am:j<i
   ·have mX:j<p.eqs.length:=Ua;have hjt:j<(p.eqs.take i).length:=by rw [List.length_take];omega
    have hd:(p.eqs.take i).drop j=p.eqs[j] :: (p.eqs.take i).drop (j+1):=by rw [No hjt,List.getElem_take]
    have hx:p.eqs[j]?=some p.eqs[j]:=Ng mX;generalize p.eqs[j]=x at hx hd;obtain⟨b',off',X1,y1,X2,y2,hA,gz,ah⟩:=(oc.later ab).get hx;have lL:b=b'/\off=off':=by simpa using hA
    obtain⟨rfl,rfl⟩:=lL;have e0:=ah.g0;clear ah hA hx hjt;rw [hd,Jjt] at aa;clear hd
    cases dj:(x.name.toList == q.name.toList)
    ·rw [dj,Bool.false_or] at aa;have HR:=Nf aa;clear aa
     go_wp2_with fail
     go_quiet (fail)
     go_wp2_with fail
     go_roundw
     case rel=>exact⟨j+1,Ua,Up,rfl,HR.out,Jb⟩
     case measure=>simp [intOf];omega
    ·rw [dj,Bool.true_or] at aa;have hv:=HT.out;rw [<-aa,if_pos rfl] at hv;clear aa;have HV:=Nf hv;clear hv
     go_wp2_with fail
     go_quiet (fail)
     go_wp2_with fail
     exact Udf
   ·obtain rfl:j=i:=Ua;rw [List.drop_eq_nil_of_le (by rw [List.length_take];omega)] at aa;have cP:Y3 (p.eqs.take j) q.name=false:=aa.symm;have hv:=HT.out;rw [cP,if_neg Ul] at hv;have dE:Ju wr L (some ⟨bv,ov,none⟩) cap:=bE.later ab;have jL:=fun W h1 h2=>gA (some ⟨bv,ov,none⟩) cap W h1 h2;have fy:=fun W h1 h2=>ey (some ⟨bv,ov,none⟩) cap W h1 h2;have aC:=Nd w wr (Jd ax ab);clear aa cP ey gA oc
    cases c3:((q.e.typ L).2 != 0)
    case true=>
     rw [if_pos Bp] at hv;clear fy;have HV:=Nf hv;clear hv
     go_wp2_with (first|(go_at_call_of 137 E2;refine(jL _ Jb (dE.later Jb)).mono ?_;rintro r wd ⟨rfl,ct⟩;have jK:=Jg ct;have ir:=ct.size;have qz:=lt0 w wd;have oe:=lt0 wb wd;have qA:bv<wd.heap.size:=Ua)|(go_at_call_of 137 E1;refine(fy _ Jb (dE.later Jb)).mono ?_;rintro r we ⟨rfl,ef⟩;have et:=Jg ef;have uX:=ef.size;have qB:=lt0 w we;have qC:=lt0 wb we;have qD:bv<we.heap.size:=Ua))
     exact Udf
    rw [if_neg Bp] at hv
    cases c4':((q.e.typ L).1 != v.type)
    case true=>
     rw [if_pos (by simpa using c4')] at hv
     by_cases qd:q.delay=1
     ·have q1:(q.delay == 1)=true:=by rw [qd];rfl
      rw [Jht (hS.out qd)] at fy;exact Uae
     ·have q1:(q.delay == 1)=false:=by simpa using qd
      exact Uac
    rw [if_neg (by simpa using c4')] at hv
    by_cases qd:q.delay=1
    ·have q1:(q.delay == 1)=true:=by rw [qd];rfl
     rw [Jht (hS.out qd)] at fy
     cases c5:((q.first.typ L).1 != v.type)
     case true=>
      rw [if_pos ⟨qd,Sf⟩] at hv;exact Uae
     rw [if_neg (by rintro⟨_,h⟩;exact h Sf)] at hv;exact Uae
    ·have q1:(q.delay == 1)=false:=by simpa using qd
     rw [if_neg (by rintro⟨h,_⟩;exact qd h)] at hv;exact Uac
theorem Jq3 (p:Pr) (a:PrA) (w:World) (hp:Kr w p a) (aw:Q4 p) (n1:p.ins.length<=1000000) (n2:p.outs.length<=1000000) (n3:p.locals.length<=1000000) (n4:p.eqs.length<=1000000) (he:K5 p≠0) :
  Calls Tryz.prog 84 #[prV p a] w fun r w'=>r = .returned (fV (J7 p))/\Below w.heap.size w w':=by
 have hv:J7 p=(4,0,K5 p):=by unfold J7;rw [if_pos he]
 have bN:=fun W h=>Jfl p a W (hp.later h) aw n1 n2 n3 n4;have he':(K5 p != 0)=true:=Ta;clear he aw;obtain⟨A1,c1,A2,c2,A3,c3,A4,c4⟩:=a;unfold prV at *;unfold fV;dsimp only at *;have HV:=Nf hv;clear hv
 go_enter Tryz.func84,Tryz.ntmps84
 go_wp2_with (go_at_call 117;refine(bN _ Jb).mono ?_;rintro r w1 ⟨rfl,ac⟩;have ak:=Jg ac;have tH:=Jf ac;have af:=ac.size;(try simp at af))
 refine Nv (v:= .agg #[.int .i64 (4),.int .i64 (0),.int .i64 (K5 p)]) Vz rfl ⟨Vp,?_⟩;exact Km
theorem Jr7 (p:Pr) (a:PrA) (w:World) (hp:Kr w p a) (aw:Q4 p) (n1:p.ins.length<=1000000) (n2:p.outs.length<=1000000) (n3:p.locals.length<=1000000) (n4:p.eqs.length<=1000000) (he:K5 p=0)
  (dP:8<p.ins.length\/8<p.outs.length\/24<(Je p).length) :
  Calls Tryz.prog 84 #[prV p a] w fun r w'=>r = .returned (fV (J7 p))/\Below w.heap.size w w':=by
 have hv:J7 p=(4,0,3):=by unfold J7;rw [if_neg Ua,if_pos dP]
 have bN:=fun W h=>Jfl p a W (hp.later h) aw n1 n2 n3 n4;have aJ:=fun W h=>Z3 p a W (hp.later h) n1 n2 n3;rw [he] at bN;clear he aw;obtain⟨A1,c1,A2,c2,A3,c3,A4,c4⟩:=a;unfold prV at *;unfold fV;dsimp only at *
 by_cases g1:8<p.ins.length
 ·exact B0
 by_cases g2:8<p.outs.length
 ·exact B0
 have g3:24<(Je p).length:=Ua;clear dP;have HV:=Nf hv;clear hv
 go_enter Tryz.func84,Tryz.ntmps84
 go_wp2_with (first|(go_at_call 117;refine(bN _ Jb).mono ?_;rintro r wa ⟨rfl,aA⟩;have aW:=Jg aA;have bS:=Jf aA;have cN:w.heap.size+2<=wa.heap.size:=Ut;have dG:=lt0 w wa;have mj:=ltA w 1 wa)|(go_at_call 26;refine(aJ _ Jb).mono ?_;rintro r wb ⟨⟨A,cap,rfl,ae⟩,aH⟩;have el:=Jg aH;have mJ:=Jf aH;have dH:=aH.size;have cA:=lt0 w wb;have mm:=ltA w 1 wb;have cR:=Ju.of_own ae))
 refine Nv (v:= .agg #[.int .i64 (4),.int .i64 (0),.int .i64 (3)]) Vz rfl ⟨Vp,?_⟩;exact Km
theorem Jom (p:Pr) (a:PrA) (w:World) (hp:Kr w p a) (aw:Q4 p) (n1:p.ins.length<=1000000) (n2:p.outs.length<=1000000) (n3:p.locals.length<=1000000) (n4:p.eqs.length<=1000000) (he:K5 p=0)
  (g1:p.ins.length<=8) (g2:p.outs.length<=8) (g3:(Je p).length<=24) :
  Calls Tryz.prog 84 #[prV p a] w fun r w'=>r = .returned (fV (J7 p))/\Below w.heap.size w w':=by
 have dD:J7 p=Jhl p (Jah (Je p) 0 (Je p)):=by unfold J7;rw [if_neg Ua,if_neg Ua]
 have dn:=(X4 (Z5 he)).2.2.2.2;have bN:=fun W h=>Jfl p a W (hp.later h) aw n1 n2 n3 n4;have aJ:=fun W h=>Z3 p a W (hp.later h) n1 n2 n3;have hreq:=Nf (fun(k:Nat) (q:Qe) (hq:p.eqs[k]?=some q) (W:World) (h:Below w.heap.size w W)=>Jvl p a k q W (hp.later h) hq (dn q (Ni hq)) (aw.eqs q (Ni hq)).2.2.1 (aw.eqs q (Ni hq)).2.2.2 n1 n2 n3 n4);rw [he] at bN;clear he aw;have kC:p.ins.length<=(Je p).length:=by simp [Je]
 have jQ:=Nf dD;clear dD dn;have bT:=hp.eqs;have oM:=hp.eqs.len;obtain⟨A1,c1,A2,c2,A3,c3,A4,c4⟩:=a;unfold maxLen at oM;unfold prV at *;unfold fV;dsimp only at *;obtain⟨tC,tD⟩:=oM;have HIL:=Nf kC;clear kC;generalize hL:Je p=L at *;have HL:=Nf hL;clear hL
 go_enter Tryz.func84,Tryz.ntmps84
 go_wp2_with (first|(go_at_call 117;refine(bN _ Jb).mono ?_;rintro r wa ⟨rfl,aA⟩;have aW:=Jg aA;have bS:=Jf aA;have cN:w.heap.size+2<=wa.heap.size:=Ut;have dG:=lt0 w wa;have mj:=ltA w 1 wa)|(go_at_call 26;refine(aJ _ Jb).mono ?_;rintro r wb ⟨⟨A,cap,rfl,ae⟩,aH⟩;have el:=Jg aH;have mJ:=Jf aH;have dH:=aH.size;have cA:=lt0 w wb;have mm:=ltA w 1 wb;have cR:=Ju.of_own ae))
 refine Jo fun W0 ag=>?_;have ax:=Nd w W0 Uo;have bD:w.heap.size<W0.heap.size:=Lk;have iq:w.heap.size+1<W0.heap.size:=Lk;have bE:Ju W0 L A cap:=Do;have p0:=Nb W0 w.heap.size 0 (.string p.name) Uc;have p1:=Nb W0 w.heap.size 1 (.slice A1 p.ins.length c1) Uc;have p2:=Nb W0 w.heap.size 2 (.slice A2 p.outs.length c2) Uc;have p3:=Nb W0 w.heap.size 3 (.slice A3 p.locals.length c3) Uc;have p4:=Nb W0 w.heap.size 4 (.slice A4 p.eqs.length c4) Uc;have f0:=Na W0 (w.heap.size+1) 0 0 Uc;have f1:=Na W0 (w.heap.size+1) 1 0 Uc;have f2:=Na W0 (w.heap.size+1) 2 0 Uc;have z0:=Nc W0 (w.heap.size+1) 0 Uc;have z1:=Nc W0 (w.heap.size+1) 1 Uc;have z2:=Nc W0 (w.heap.size+1) 2 Uc;have oc:=bT.later ax;have cY:=bE.len;unfold maxLen at cY;obtain⟨fH,fI⟩:=cY;clear ag bN aJ ae cR aW el bS mJ hp bT
 go_loopw [6] (fun i wr=>∃k:Nat,k<=L.length/\i = .int .i64 k/\Jah L k (L.drop k)=Jah L 0 L/\Below W0.heap.size W0 wr) (fun i _=>L.length-(intOf i).toNat)
 case atStart=>exact⟨0,Np,rfl,rfl,Nt⟩
 case round=>
  obtain⟨k,hk,rfl,aa,ab⟩:=hrel;have hc:=Jg ab;have eh:=Jf ab;have bu:=ab.size;have fF:=lt0 w wr;have fa:=ltA w 1 wr
  by_cases am:k<L.length
  ·have qx:=fun s W (h:Below W0.heap.size W0 W)=>Xa L A cap s W (bE.later h);obtain⟨x,hx,-,hd⟩:=Kl am;obtain⟨b,off,rfl,aH,⟨d0,d1,d2,d3⟩⟩:=(bE.later ab).get hx;rw [hd,Jah] at aa;obtain⟨iv,ji,je⟩:=Jek hx;have ap:=qx x.name;rw [<-je] at aa;clear hd hx je qx
   by_cases dj:Jp L x.name≠(k:Int)
   ·rw [if_pos dj] at aa;have hv:J7 p=(2,(k:Int),18):=G0;have jK:decide (Jp L x.name<(k:Int))=true:=Uj;clear aa dj;have HV:=Nf hv;clear hv
    go_wp2_with (first|(go_at_call 49;refine(ap _ Jb).mono ?_;rintro r wd ⟨rfl,ct⟩;have jK:=Jg ct;have jS:=Jf ct;have ir:=ct.size;have ly:=lt0 w wd;have hyd':=ltA w 1 wd))
    refine Nv (v:= .agg #[.int .i64 (2),.int .i64 ((k:Int)),.int .i64 (18)]) Vz rfl ⟨Vp,?_⟩;exact Km
   ·rw [if_neg dj] at aa;have HR:=Nf aa;clear aa;have jK:decide (Jp L x.name<(k:Int))=false:=Uj;clear dj
    go_wp2_with (first|(go_at_call 49;refine(ap _ Jb).mono ?_;rintro r wd ⟨rfl,ct⟩;have ir:=ct.size))
    exact Uc5
  obtain rfl:k=L.length:=Ua;rw [Nn,Jah] at aa;have fC:J7 p=Jkn L p.ins.length (Zy L p.ins.length 0 (fun _=>none) p.eqs):=by rw [jQ.out,<-aa,Jhl,HL.out]
  have ku:=Nf fC;clear fC aa;clear hc eh
  go_wp2_with fail
  go_loopw [7] (fun i wr=>∃(k:Nat) (d:ByteArray->Option Int),k<=p.eqs.length/\i = .int .i64 k/\Hid (Jfa d (p.eqs.take k))/\Zy L p.ins.length k d (p.eqs.drop k)=Zy L p.ins.length 0 (fun _=>none) p.eqs/\Below W0.heap.size W0 wr) (fun i _=>p.eqs.length-(intOf i).toNat)
  case atStart=>exact⟨0,_,Np,rfl,Nf Jtg,rfl,ab⟩
  case round=>
   obtain⟨k,d,hk,rfl,HD,aa,ab⟩:=hrel;have hc:=Jg ab;have eh:=Jf ab;have bu:=ab.size;have fF:=lt0 w wr;have fa:=ltA w 1 wr
   by_cases am:k<p.eqs.length
   ·have hx:p.eqs[k]?=some p.eqs[k]:=Ng am;have hd:p.eqs.drop k=p.eqs[k] :: p.eqs.drop (k+1):=No am;have aP:p.eqs.take (k+1)=p.eqs.take k ++ [p.eqs[k]]:=U6;generalize p.eqs[k]=q at hx hd aP;have ou:=fun W h=>hreq.out k q hx W h;rw [Jwe Ua HD.out q] at ou;have HD2:Hid (Jfa (upd d q.name ((d q.name).getD 0+1)) (p.eqs.take (k+1))):=Nf (by rw [aP];exact Jqq HD.out q);rw [hd,Zy] at aa;clear hd hx aP
    cases dj:(eqE L p.ins.length d q != 0)
    case true=>
     rw [if_pos G7] at aa;have fC:J7 p=(3,(k:Int),eqE L p.ins.length d q):=Fk;clear aa;have HV:=Nf fC;clear fC
     go_wp2_with (first|(go_at_call 118;refine(ou _ Jb).mono ?_;rintro r wd ⟨rfl,ct⟩;have jK:=Jg ct;have jS:=Jf ct;have ir:=ct.size;have ly:=lt0 w wd;have hyd':=ltA w 1 wd))
     refine Nv (v:= .agg #[.int .i64 (3),.int .i64 ((k:Int)),.int .i64 ((eqE L p.ins.length d q))]) Vz rfl ⟨Vp,?_⟩;exact Km
    rw [if_neg G7] at aa;have HR:=Nf aa;clear aa
    go_wp2_with (first|(go_at_call 118;refine(ou _ Jb).mono ?_;rintro r wd ⟨rfl,ct⟩;have jK:=Jg ct;have jS:=Jf ct;have ir:=ct.size;have ly:=lt0 w wd;have hyd':=ltA w 1 wd))
    go_roundw
    case rel=>exact⟨k+1,_,Ua,Up,HD2,HR.out,Jb⟩
    case measure=>simp [intOf];omega
   obtain rfl:k=p.eqs.length:=Ua;rw [Nn,Zy] at aa;have fC:J7 p=Jg3 d L p.ins.length:=Fk;have bL:=Nf fC;clear fC aa ku;have HD1:Hid (Jfa d p.eqs):=Nf (by have:=HD.out;rwa [List.take_length] at this);have kC:=HIL.out;clear HD
   go_wp2_with fail
   clear hc eh
   go_loopw [9] (fun i wr=>∃k:Nat,p.ins.length<=k/\k<=L.length/\i = .int .i64 k/\Jam d k (L.drop k)=Jam d p.ins.length (L.drop p.ins.length)/\Below W0.heap.size W0 wr) (fun i _=>L.length-(intOf i).toNat)
   case atStart=>exact⟨p.ins.length,Ns _,kC,rfl,rfl,Jb⟩
   case round=>
    obtain⟨k,fR,hk,rfl,aa,ab⟩:=hrel;have hc:=Jg ab;have eh:=Jf ab;have bu:=ab.size;have hr6:=lt0 w wr;have hr7:=ltA w 1 wr
    by_cases am:k<L.length
    ·have hx:L[k]?=some L[k]:=Ng am;have hd:L.drop k=L[k] :: L.drop (k+1):=No am;generalize L[k]=x at hx hd;obtain⟨bv,ov,rfl,dB,⟨d0,d1,d2,d3⟩⟩:=bE.get hx;have mE:bv<wr.heap.size:=Ua;rw [hd,Jam] at aa;have hcnt:=HD1.out x.name;have HREM:=Nf aa;clear aa;have HCNT:=Nf hcnt;clear hcnt;clear hd hx d1 d2 d3
     go_wp2_with fail
     go_loopw [10,11] (fun o i wr=>∃(j:Nat) (bb:Bool),j<=p.eqs.length/\i = .int .i64 j/\o = .bool bb/\(bb || Y3 (p.eqs.drop j) x.name)=Y3 p.eqs x.name/\Below W0.heap.size W0 wr) (fun _ i _=>p.eqs.length-(intOf i).toNat)
     case atStart=>exact⟨0,false,Np,rfl,rfl,rfl,Jb⟩
     case round=>
      obtain⟨j,bb,hj,rfl,rfl,aa,ab⟩:=hrel;have hc:=Jg ab;have eh:=Jf ab;have bu:=ab.size;have hr8:=lt0 w wr;have hr9:=ltA w 1 wr;have hr10:bv<wr.heap.size:=Ua
      by_cases nK:j<p.eqs.length
      ·have qy:p.eqs[j]?=some p.eqs[j]:=Ng nK;have hdj:p.eqs.drop j=p.eqs[j] :: p.eqs.drop (j+1):=No nK;generalize p.eqs[j]=q at qy hdj;obtain⟨b,off,E1,k1,E2,k2,rfl,aH,⟨g0,g1,g2,g3,g4,g5,g6,g7,g8,g9,s1,s2⟩⟩:=oc.get qy;have hbbr:b<wr.heap.size:=Ua;rw [hdj,Jjt] at aa;clear hdj qy g1 g2 g3 g4 g5 g6 g7 g8 g9 s1 s2
       cases bb
       ·cases dj:(q.name.toList == x.name.toList)
        ·rw [dj,Bool.false_or] at aa;have HR:=Nf aa;clear aa
         go_wp2_with fail
         go_quiet (fail)
         go_wp2_with fail
         go_roundw
         case rel=>exact⟨j+1,_,Ua,Up,rfl,HR.out,Jb⟩
         case measure=>simp [intOf];omega
        ·rw [dj,Bool.true_or,Bool.false_or] at aa;exact Ubh
       ·rw [Bool.true_or] at aa;exact Ubh
      obtain rfl:j=p.eqs.length:=Ua;rw [Nn] at aa
      cases bb
      ·have hz:(d x.name).getD 0=0:=HCNT.out.2 aa.symm;have jd:=HREM.out;rw [if_pos hz] at jd;have hv:J7 p=(2,(k:Int),8):=by rw [bL.out,Jg3,<-jd]
       clear aa jd hz;have HV:=Nf hv;clear hv
       go_wp2_with fail
       refine Nv (v:= .agg #[.int .i64 (2),.int .i64 ((k:Int)),.int .i64 (8)]) Vz rfl ⟨Vp,?_⟩;exact Km
      ·have hz:0<(d x.name).getD 0:=HCNT.out.1 (by rw [<-aa];rfl);have jd:=HREM.out;rw [if_neg Ua] at jd;have HR:=Nf jd;clear jd aa hz
       go_wp2_with fail
       go_roundw
       case rel=>exact⟨k+1,Ua,Ua,Up,HR.out,Jb⟩
       case measure=>simp [intOf];omega
    obtain rfl:k=L.length:=Ua;rw [Nn,Jam] at aa;have hv:J7 p=(0,0,0):=by rw [bL.out,Jg3,<-aa]
    clear aa;have HV:=Nf hv;clear hv
    go_wp2_with fail
    refine Nv (v:= .agg #[.int .i64 (0),.int .i64 (0),.int .i64 (0)]) Vz rfl ⟨Vp,?_⟩;exact Km
theorem Jk8 (p:Pr) (a:PrA) (w:World) (hp:Kr w p a) (aw:Q4 p) (n1:p.ins.length<=1000000) (n2:p.outs.length<=1000000) (n3:p.locals.length<=1000000) (n4:p.eqs.length<=1000000) :
  Calls Tryz.prog 84 #[prV p a] w fun r w'=>r = .returned (fV (J7 p))/\Below w.heap.size w w':=by
 by_cases he:K5 p=0
 ·by_cases hb:8<p.ins.length\/8<p.outs.length\/24<(Je p).length
  ·exact Jr7 p a w hp aw n1 n2 n3 n4 he hb
  ·exact Jom p a w hp aw n1 n2 n3 n4 he Ua Ua Ua
 ·exact Jq3 p a w hp aw n1 n2 n3 n4 he
end Go.Proofs.YtknfcamdfdfoeaaGreatDoor
