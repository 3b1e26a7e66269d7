/- Lemmas. -/
import Derived.Test.YtknfcamdfdfoeaaGreatDoorMac
import Derived.Test.YtknfcamdfdfoeaaGreatDoorZ00
import Derived.Test.YtknfcamdfdfoeaaGreatDoorZ09
import Derived.Test.YtknfcamdfdfoeaaGreatDoorZ06
import Derived.Test.YtknfcamdfdfoeaaGreatDoorZ11
import Derived.Test.YtknfcamdfdfoeaaGreatDoorZ07
set_option linter.unusedVariables false
set_option linter.unusedSimpArgs false
set_option maxRecDepth 100000
set_option maxHeartbeats 64000000
namespace Go.Proofs.YtknfcamdfdfoeaaGreatDoor
open Go.RowKit Go.Sort
def Jxl (l:List Va) (A:Option Addr) (cap:Nat) (x:Ex):Prop:=∀(A':Option Addr) (c':Nat) (ck:Int) (cn:ByteArray) (W:World),Jt W x A' c'->Ju W l A cap->
  Calls Tryz.prog 120 #[exV x A' c',.agg #[.int .i64 ck,.string cn],.slice A l.length cap] W fun r w'=>r = .returned (.int .i64 (x.clk l (ck,cn)))/\Below W.heap.size W w'
theorem Jw4 (e:Ex):e.formed=true->∀(l:List Va) (A:Option Addr) (cap:Nat),Jxl l A cap e:=by
 induction e using Ex.ind with
 | h e ih0=>
 intro hf l A cap Ae ce ck cn w he hl;have ih:∀x∈e.sub,Jxl l A cap x:=fun x hx=>ih0 x hx (Ex.formed_sub hf hx) l A cap;have hR:=Nf (Jxr (l:=l) hf (ck,cn))
 have fD:e.sub.length<=3:=by
  have ai:=(Ex.formed_kind hf).1;unfold Jw at ai
  repeat' split at ai
  all_goals first|omega|(simp at ai;omega)
 have ae:=fun W h=>Js7 e Ae ce ck cn l A cap W (hl.later h);have hwith:=fun W=>Jg4 e Ae ce ck cn W Ua;have ai:=he.len;unfold maxLen at ai;obtain⟨bI,aD⟩:=ai;clear ih0 hf;unfold exV at *;generalize zb:Jec l e.kind e.name (ck,cn)=f0 at *;clear zb
 go_enter Tryz.func120,Tryz.ntmps120
 go_wp2_with (first|(go_at_call 140;refine(ae _ Jb).mono ?_;rintro r w1 ⟨rfl,ac⟩;have ak:=Jg ac;have af:=ac.size;(try simp at af);have jl:=lt0 w w1;have bV:=ltA w 1 w1)|(go_at_call 56;refine(hwith _).mono ?_;rintro r w2 ⟨⟨v,rfl,ay⟩,aq⟩;have dm:=Jg aq;have br:=aq.size;have gq:=lt0 w w2;have ow:=ltA w 1 w2))
 refine Jo fun W0 ag=>?_;have ax:=Nd w W0 Uo;have bD:w.heap.size<W0.heap.size:=Us;have p3:=Nb W0 w.heap.size 3 (.slice Ae e.sub.length ce) Uc;have mV:W0.ownsRow w1.heap.size 55 2 v e.sub.length (Yx e.kind e.name (ck,cn) e.sub.length):=by rw [ag];exact ay
 clear ag ak dm ay;have he0:=he.later ax;have eb:=hl.later ax
 go_loopw [7,9] (fun f i wr=>∃(k:Nat) (g:Int),k<=e.sub.length/\i = .int .i64 k/\f = .int .i64 g/\(if g≠0 then g else Jf7 l e.kind e.name (ck,cn) k (e.sub.drop k))=e.clk l (ck,cn)/\Below W0.heap.size W0 wr) (fun _ i _=>e.sub.length-(intOf i).toNat)
 case atStart=>exact⟨0,f0,Np,rfl,rfl,by rw [hR.out];rfl,Nt⟩
 case round=>
  obtain⟨k,g,hk,rfl,rfl,aa,ab⟩:=hrel;have hc:=Jg ab;have bu:=ab.size;have eV:=lt0 w wr
  by_cases hg:g=0
  ·have g0:(g == 0)=true:=by simpa using hg
   rw [if_neg Ua] at aa
   by_cases am:k<e.sub.length
   ·have hx:e.sub[k]?=some e.sub[k]:=Ng am;have aj:e.sub[k]∈e.sub:=Nj am;have hd:e.sub.drop k=e.sub[k] :: e.sub.drop (k+1):=No am;generalize e.sub[k]=x at hx aj hd;obtain⟨b,off,A',cap',rfl,c0,c1,c2,c3,hs⟩:=(he0.later ab).get hx;have aC:b<wr.heap.size:=Nu c0;rw [hd,Jf7] at aa;obtain⟨gb,gc,rfl,eN,aG,bJ,cg,ah⟩:=Kc (Jy mV ab) Ua;have aY:=Jfy e.kind e.name (ck,cn) am;have e0:=ah _ _ aY.1;have e1:=ah _ _ aY.2;unfold maxLen at cg;generalize K4 e.kind e.name (ck,cn) k=wc at aa e0 e1;obtain⟨wk,ws⟩:=wc;dsimp only at aa e0 e1;have ix:=fun W h=>ih x aj A' cap' wk ws W (hs.later h) ((eb.later ab).later h);unfold exV at ix;have xg:k<e.sub.length:=am;clear hd hx aY ah hg
    by_cases hz:x.clk l (wk,ws)=0
    ·rw [if_neg Ua] at aa;have HR:=Nf aa;clear aa;have HZ:=Nf hz;clear hz
     go_wp2_with fail
     refine Jx Ug Ug (fun bj=>?_)
     repeat (quiet_step ((first|(go_at_call 120;exact Calls.regrown_of (ix _ Jb)))))
     refine wpQuiet_nil ?_;intro wq au;replace au:=qbo au;obtain⟨au,dA,bh⟩:=au;clear bj
     (try simp at bh)
     go_wp2_with fail
     go_roundw
     case rel=>exact⟨k+1,x.clk l (wk,ws),Ua,Up,rfl,by rw [if_neg (by have:=HZ.out;omega)];exact HR.out,Jb⟩
     case measure=>simp [intOf];omega
    ·rw [if_pos hz] at aa;have HR:=Nf aa;clear aa;have HZ:=Nf hz;clear hz
     go_wp2_with fail
     refine Jx Ug Ug (fun bj=>?_)
     repeat (quiet_step ((first|(go_at_call 120;exact Calls.regrown_of (ix _ Jb)))))
     refine wpQuiet_nil ?_;intro wq au;replace au:=qbo au;obtain⟨au,dA,bh⟩:=au;clear bj
     (try simp at bh)
     go_wp2_with fail
     go_roundw
     case rel=>exact⟨k+1,x.clk l (wk,ws),Ua,Up,rfl,by rw [if_pos HZ.out];exact HR.out,Jb⟩
     case measure=>simp [intOf];omega
   ·obtain rfl:k=e.sub.length:=Ua;rw [Nn,Jf7] at aa;subst hg;have HR:=Nf aa;clear aa;exact Uda
  ·have g0:(g == 0)=false:=by simpa using hg
   rw [if_pos hg] at aa;have HR:=Nf aa;clear aa hg
   by_cases am:k<e.sub.length
   ·exact Uda
   ·exact Uda
theorem Jpl (e:Ex) (aw:e.OK) (Ae:Option Addr) (ce:Nat) (ck:Int) (cn:ByteArray) (l:List Va) (A:Option Addr) (cap:Nat) (w:World) (he:Jt w e Ae ce) (hl:Ju w l A cap) :
  Calls Tryz.prog 86 #[exV e Ae ce,.agg #[.int .i64 ck,.string cn],.slice A l.length cap] w fun r w'=>r = .returned (.int .i64 (Jhk l e (ck,cn)))/\Below w.heap.size w w':=by
 have aB:=fun W h=>Jdb e Ae ce W (he.later h) aw;clear aw
 by_cases hr:e.right=0
 ·have ix:=fun W h1 h2=>Jw4 e ((Ex.right_zero.1 hr).2.2) l A cap Ae ce ck cn W h1 h2;have hv:Jhk l e (ck,cn)=e.clk l (ck,cn):=by unfold Jhk;rw [if_neg Ua]
  have h1:(e.right != 0)=false:=Dq;clear hr;have HV:=Nf hv;clear hv;unfold exV at *
  go_enter Tryz.func86,Tryz.ntmps86
  go_wp2_with (first|(go_at_call 119;refine mo (aB _ Jb) fun w1 ac ak af bV=>?_;(try simp at af))|(go_at_call 120;refine(ix _ (he.later Jb) (hl.later Jb)).mono ?_;rintro r wc ⟨rfl,bU⟩))
  exact Udf
 ·have hv:Jhk l e (ck,cn)=e.right:=by unfold Jhk;rw [if_pos hr]
  have h1:(e.right != 0)=true:=Dq;clear hr;have HV:=Nf hv;clear hv;unfold exV at *
  go_enter Tryz.func86,Tryz.ntmps86
  go_wp2_with (first|(go_at_call 119;refine mo (aB _ Jb) fun w1 ac ak af bV=>?_;(try simp at af)))
  exact Udf
theorem Jkz (p:Pr) (a:PrA) (w:World) (hp:Kr w p a) (aw:Q4 p) (n1:p.ins.length<=1000000) (n2:p.outs.length<=1000000) (n3:p.locals.length<=1000000) (n4:p.eqs.length<=1000000) (aN:J7 p≠(0,0,0)) :
  Calls Tryz.prog 53 #[prV p a] w fun r w'=>r = .returned (fV (J7 p))/\Below w.heap.size w w':=by
 have aV:=fun W h=>Jk8 p a W (hp.later h) aw n1 n2 n3 n4;have he:((J7 p).2.2 != 0)=true:=by simpa using Jrg aN
 clear aN aw;obtain⟨A1,c1,A2,c2,A3,c3,A4,c4⟩:=a;unfold prV fV at *;dsimp only at *;generalize J7 p=f at *;obtain⟨f0,f1,f2⟩:=f;dsimp only at *
 go_enter Tryz.func53,Tryz.ntmps53
 go_wp2_with (first|(go_at_call 84;refine(aV _ Jb).mono ?_;rintro r wa ⟨rfl,aA⟩;have aW:=Jg aA;have bS:=Jf aA;have cN:w.heap.size+2<=wa.heap.size:=Ut;have dG:=lt0 w wa;have aX:=ltA w 1 wa))
 refine Nv (v:= .agg #[.int .i64 f0,.int .i64 f1,.int .i64 f2]) Lr rfl ⟨rfl,?_⟩;exact Km
theorem Jku (p:Pr) (a:PrA) (w:World) (hp:Kr w p a) (aw:Q4 p) (n1:p.ins.length<=1000000) (n2:p.outs.length<=1000000) (n3:p.locals.length<=1000000) (n4:p.eqs.length<=1000000) (aN:J7 p=(0,0,0)) :
  Calls Tryz.prog 53 #[prV p a] w fun r w'=>r = .returned (fV (Qg p))/\Below w.heap.size w w':=by
 have dD:Qg p=Jgx p (Yy (Je p) 0 (Je p)):=by unfold Qg;rw [if_neg (by rw [aN];simp)]
 obtain⟨lG,hL24⟩:=Jlm aN;have dn:=(X4 (Z5 lG)).2.2.2.2;have ry:=Nf (Jf5 aN);have aV:=fun W h=>Jk8 p a W (hp.later h) aw n1 n2 n3 n4;have aJ:=fun W h=>Z3 p a W (hp.later h) n1 n2 n3;rw [aN] at aV;clear aN lG;have jQ:=Nf dD;clear dD;have jR:=Nf dn;clear dn;have kc:=Nf aw.eqs;clear aw;have bT:=hp.eqs;have oM:=hp.eqs.len;obtain⟨A1,c1,A2,c2,A3,c3,A4,c4⟩:=a;unfold maxLen at oM;unfold prV fV at *;dsimp only at *;obtain⟨tC,tD⟩:=oM;have cM:Jgx p none=Ji8 (Y7 (Je p) 0 p.eqs):=rfl;have tE:=Nf cM;clear cM;generalize hL:Je p=L at *;clear hL hp
 go_enter Tryz.func53,Tryz.ntmps53
 go_wp2_with (first|(go_at_call 84;refine(aV _ Jb).mono ?_;rintro r wa ⟨rfl,aA⟩;have aW:=Jg aA;have bS:=Jf aA;have cN:w.heap.size+2<=wa.heap.size:=Ut;have dG:=lt0 w wa;have aX:=ltA w 1 wa)|(go_at_call 26;refine(aJ _ Jb).mono ?_;rintro r wb ⟨⟨A,cap,rfl,ae⟩,aH⟩;have el:=Jg aH;have mJ:=Jf aH;have dH:=aH.size;(try simp at dH);have cA:=lt0 w wb;have ep:=ltA w 1 wb;have cR:=Ju.of_own ae))
 refine Jo fun W0 ag=>?_;have ax:=Nd w W0 Uo;have bD:w.heap.size<W0.heap.size:=Lk;have af:w.heap.size+1<W0.heap.size:=Lk;have x4:=Nb W0 w.heap.size 4 (.slice A4 p.eqs.length c4) Uc;have f0:=Na W0 (w.heap.size+1) 0 0 Uc;have f1:=Na W0 (w.heap.size+1) 1 0 Uc;have f2:=Na W0 (w.heap.size+1) 2 0 Uc;have z0:=Nc W0 (w.heap.size+1) 0 Uc;have z1:=Nc W0 (w.heap.size+1) 1 Uc;have z2:=Nc W0 (w.heap.size+1) 2 Uc;have bE:Ju W0 L A cap:=by rw [ag];exact cR
 have cY:=bE.len;unfold maxLen at cY;obtain⟨fH,fI⟩:=cY;clear ag;have oc:=bT.later ax;clear aV aJ ae cR aW el bS mJ bT
 go_loopw [5] (fun i wr=>∃k:Nat,k<=L.length/\i = .int .i64 k/\Yy L k (L.drop k)=Yy L 0 L/\Below W0.heap.size W0 wr) (fun i _=>L.length-(intOf i).toNat)
 case atStart=>exact⟨0,Np,rfl,rfl,Nt⟩
 case round=>
  obtain⟨k,hk,rfl,aa,ab⟩:=hrel;have hc:=Jg ab;have eh:=Jf ab;have bu:=ab.size;have fF:=lt0 w wr;have fa:=ltA w 1 wr
  by_cases am:k<L.length
  ·have hx:L[k]?=some L[k]:=Ng am;have hd:L.drop k=L[k] :: L.drop (k+1):=No am;generalize L[k]=x at hx hd;obtain⟨b,off,hA,aH,⟨d0,d1,d2,d3⟩⟩:=bE.get hx;subst hA;have rq:b<wr.heap.size:=Ua;rw [hd,Yy] at aa;have aK:=fun(v:Va) W=>Jpp v W;have fk:=aK x;have ap:=fun W h=>Xa L (some ⟨b,off,none⟩) cap x.cn W ((bE.later ab).later h);have dy:Yc L x=Yc L x:=rfl;rw (occs:= .pos [2]) [Yc] at dy;unfold vaV at fk;clear hd hx
   cases hq:K9 x.ck x.cn 0 ⟨#[]⟩
   case true=>
    rw [hq,if_pos rfl] at dy;rw [dy,if_neg Ul] at aa;rw [hq] at fk;have HR:=Nf aa;clear aa dy hq ap aK;exact Bo
   rw [hq,if_neg Ul] at dy;rw [hq] at fk;clear hq
   rcases Y5 L x.cn with ⟨cL,eB⟩|⟨j,c,cL,qy,eB⟩
   ·rw [eB] at dy;rw [cL] at ap;dsimp only at dy;rw [dy,if_pos Ux] at aa;have hv:Qg p=(2,(k:Int),19):=G0;clear aa dy cL eB aK;have HV:=Nf hv;clear hv
    go_wp2_with (first|(go_at_call_of 85 (Value.string x.name);refine(fk _).mono ?_;rintro r w1 ⟨rfl,ac⟩;have ak:=Jg ac;have db:=Jf ac;have af:=ac.size;have bV:=lt0 w w1;have gq:=ltA w 1 w1;have ow:b<w1.heap.size:=Ua)|(go_at_call 49;refine(ap _ Jb).mono ?_;rintro r w2 ⟨rfl,aq⟩;have dm:=Jg aq;have gO:=Jf aq;have br:=aq.size;have ns:=lt0 w w2;have nt:=ltA w 1 w2;have lH:b<w2.heap.size:=Ua)|(go_at_call 85;refine(bU _).mono ?_;rintro r w3 ⟨rfl,aM⟩;have kE:=Jg aM;have tx:=Jf aM;have fe:=aM.size;have xd:=lt0 w w3;have hy8:=ltA w 1 w3))
    refine Nv (v:= .agg #[.int .i64 (2),.int .i64 ((k:Int)),.int .i64 (19)]) Lr rfl ⟨Vp,?_⟩;exact Km
   rw [eB] at dy;rw [cL] at ap;dsimp only at dy;have mX:j<L.length:=(Nh qy).1;have yL:(j:Int)<(L.length:Int):=Ua;have tjj:¬((j:Int)<0):=Ua;obtain⟨b',off',lL,_,⟨y0,y1,y2,y3⟩⟩:=bE.get qy;have tM:b=b'/\off=off':=by simpa using lL
   obtain⟨rfl,rfl⟩:=tM;have bU:=aK c;unfold vaV at bU;clear qy lL cL eB aK
   by_cases ht:c.type≠2
   ·rw [if_pos ht] at dy;rw [dy,if_pos Ux] at aa;have hv:Qg p=(2,(k:Int),20):=G0;have t2:(c.type != 2)=true:=by simpa using ht
    clear aa dy ht bU;have HV:=Nf hv;clear hv
    go_wp2_with (first|(go_at_call_of 85 (Value.string x.name);refine(fk _).mono ?_;rintro r w1 ⟨rfl,ac⟩;have ak:=Jg ac;have db:=Jf ac;have af:=ac.size;have bV:=lt0 w w1;have gq:=ltA w 1 w1;have ow:b<w1.heap.size:=Ua)|(go_at_call 49;refine(ap _ Jb).mono ?_;rintro r w2 ⟨rfl,aq⟩;have dm:=Jg aq;have gO:=Jf aq;have br:=aq.size;have ns:=lt0 w w2;have nt:=ltA w 1 w2;have lH:b<w2.heap.size:=Ua)|(go_at_call 85;refine(bU _).mono ?_;rintro r w3 ⟨rfl,aM⟩;have kE:=Jg aM;have tx:=Jf aM;have fe:=aM.size;have xd:=lt0 w w3;have hy8:=ltA w 1 w3))
    refine Nv (v:= .agg #[.int .i64 (2),.int .i64 ((k:Int)),.int .i64 (20)]) Lr rfl ⟨Vp,?_⟩;exact Km
   rw [if_neg ht] at dy;have t2:(c.type != 2)=false:=by simpa using ht
   clear ht
   cases je:K9 c.ck c.cn 0 ⟨#[]⟩
   ·rw [je,if_neg Ul] at dy;rw [je] at bU;rw [dy,if_pos Ux] at aa;have hv:Qg p=(2,(k:Int),21):=G0;clear aa dy je;have HV:=Nf hv;clear hv
    go_wp2_with (first|(go_at_call_of 85 (Value.string x.name);refine(fk _).mono ?_;rintro r w1 ⟨rfl,ac⟩;have ak:=Jg ac;have db:=Jf ac;have af:=ac.size;have bV:=lt0 w w1;have gq:=ltA w 1 w1;have ow:b<w1.heap.size:=Ua)|(go_at_call 49;refine(ap _ Jb).mono ?_;rintro r w2 ⟨rfl,aq⟩;have dm:=Jg aq;have gO:=Jf aq;have br:=aq.size;have ns:=lt0 w w2;have nt:=ltA w 1 w2;have lH:b<w2.heap.size:=Ua)|(go_at_call 85;refine(bU _).mono ?_;rintro r w3 ⟨rfl,aM⟩;have kE:=Jg aM;have tx:=Jf aM;have fe:=aM.size;have xd:=lt0 w w3;have hy8:=ltA w 1 w3))
    refine Nv (v:= .agg #[.int .i64 (2),.int .i64 ((k:Int)),.int .i64 (21)]) Lr rfl ⟨Vp,?_⟩;exact Km
   ·rw [je,if_pos rfl] at dy;rw [je] at bU;rw [dy,if_neg Ul] at aa;have HR:=Nf aa;clear aa dy je;exact Bo
  obtain rfl:k=L.length:=Ua;rw [Nn,Yy] at aa;have fC:Qg p=Ji8 (Y7 L 0 p.eqs):=by rw [jQ.out,<-aa];exact tE.out
  have ku:=Nf fC;clear fC aa
  go_wp2_with fail
  clear hc eh bu fF fa
  go_loopw [7] (fun i wr=>∃k:Nat,k<=p.eqs.length/\i = .int .i64 k/\Y7 L k (p.eqs.drop k)=Y7 L 0 p.eqs/\Below W0.heap.size W0 wr) (fun i _=>p.eqs.length-(intOf i).toNat)
  case atStart=>exact⟨0,Np,rfl,rfl,ab⟩
  case round=>
   clear ab;obtain⟨k,hk,rfl,aa,ab⟩:=hrel;have hc:=Jg ab;have eh:=Jf ab;have bu:=ab.size;have fF:=lt0 w wr;have fa:=ltA w 1 wr
   by_cases am:k<p.eqs.length
   ·have hx:p.eqs[k]?=some p.eqs[k]:=Ng am;have hd:p.eqs.drop k=p.eqs[k] :: p.eqs.drop (k+1):=No am;generalize p.eqs[k]=q at hx hd;obtain⟨b,off,E1,k1,E2,k2,rfl,aH,⟨g0,g1,g2,g3,g4,g5,g6,g7,g8,g9,s1,s2⟩⟩:=oc.get hx;have rq:b<wr.heap.size:=Ua;rw [hd,Y7] at aa;have aj:=Ni hx;have eV:q.e.right=0:=(Jm3 (jR.out q aj)).1;obtain⟨j0,wP⟩:=ry.out q aj
    rcases Y5 L q.name with ⟨cL,eB⟩|⟨j,v,cL,qy,eB⟩
    ·exfalso
     unfold Jp at cL;rw [wP] at cL;obtain⟨kk,_,mI,_⟩:=Zi wP;simp only [Option.getD_some] at cL;exact Ua
    have ap:=fun W h=>Xa L A cap q.name W ((bE.later ab).later h);rw [cL] at ap;have mX:j<L.length:=(Nh qy).1;have yL:(j:Int)<(L.length:Int):=Ua;have tjj:¬((j:Int)<0):=Ua;have ix:=fun W h=>Jpl q.e (kc.out q aj).2.2.2 E2 k2 v.ck v.cn L A cap W ((s2.later ab).later h) ((bE.later ab).later h);have bO:Jcy L q.name=(v.ck,v.cn):=by unfold Jcy;rw [eB]
    have et:Jhk L q.e (v.ck,v.cn)=q.e.clk L (v.ck,v.cn):=by unfold Jhk;rw [if_neg Ua]
    rw [bO] at aa;rw [et] at ix;obtain⟨bv,ov,lL,dB,⟨y0,y1,y2,y3⟩⟩:=bE.get qy;subst lL;have mE:bv<wr.heap.size:=Ua;unfold exV at ix;clear qy cL eB bO et wP eV aj hd hx y0 y1;generalize q.e.clk L (v.ck,v.cn)=de at *
    by_cases eD:de≠0
    ·rw [if_pos eD] at aa;have hv:Qg p=(3,(k:Int),de):=Fk;have t1:(de != 0)=true:=G8;clear aa eD;have HV:=Nf hv;clear hv
     go_wp2_with (first|(go_at_call 49;refine(ap _ Jb).mono ?_;rintro r w2 ⟨rfl,aq⟩;have dm:=Jg aq;have gO:=Jf aq;have br:=aq.size;have ns:=lt0 w w2;have nt:=ltA w 1 w2;have lH:b<w2.heap.size:=Ua;have xd:bv<w2.heap.size:=Ua))
     refine Jx Ug Ug (fun bj=>?_)
     repeat (quiet_step ((first|(go_at_call 86;exact Calls.regrown_of (ix _ Jb)))))
     refine wpQuiet_nil ?_;intro wq au;replace au:=qbo au;obtain⟨au,dA,bh⟩:=au;clear bj
     (try simp at bh)
     have ri:=Jf au
     go_wp2_with fail
     refine Nv (v:= .agg #[.int .i64 (3),.int .i64 ((k:Int)),.int .i64 (de)]) Lr rfl ⟨Vp,?_⟩;exact Km
    ·rw [if_neg eD] at aa;have t1:(de != 0)=false:=G8;have HR:=Nf aa;clear aa eD
     go_wp2_with (first|(go_at_call 49;refine(ap _ Jb).mono ?_;rintro r w2 ⟨rfl,aq⟩;have dm:=Jg aq;have gO:=Jf aq;have br:=aq.size;have ns:=lt0 w w2;have nt:=ltA w 1 w2;have lH:b<w2.heap.size:=Ua;have xd:bv<w2.heap.size:=Ua))
     refine Jx Ug Ug (fun bj=>?_)
     repeat (quiet_step ((first|(go_at_call 86;exact Calls.regrown_of (ix _ Jb)))))
     refine wpQuiet_nil ?_;intro wq au;replace au:=qbo au;obtain⟨au,dA,bh⟩:=au;clear bj
     (try simp at bh)
     go_wp2_with fail
     exact Uc5
   obtain rfl:k=p.eqs.length:=Ua;rw [Nn,Y7] at aa;have hv:Qg p=(0,0,0):=Fk;clear aa;have HV:=Nf hv;clear hv
   go_wp2_with fail
   refine Nv (v:= .agg #[.int .i64 (0),.int .i64 (0),.int .i64 (0)]) Lr rfl ⟨Vp,?_⟩;exact Km
theorem Jhn (p:Pr) (a:PrA) (w:World) (hp:Kr w p a) (aw:Q4 p) (n1:p.ins.length<=1000000) (n2:p.outs.length<=1000000) (n3:p.locals.length<=1000000) (n4:p.eqs.length<=1000000) :
  Calls Tryz.prog 53 #[prV p a] w fun r w'=>r = .returned (fV (Qg p))/\Below w.heap.size w w':=by
 by_cases aN:J7 p=(0,0,0)
 ·exact Jku p a w hp aw n1 n2 n3 n4 aN
 ·have hv:Qg p=J7 p:=by unfold Qg;rw [if_pos aN]
  rw [hv];exact Jkz p a w hp aw n1 n2 n3 n4 aN
end Go.Proofs.YtknfcamdfdfoeaaGreatDoor
