/- Lemmas. -/
import Derived.Test.YtknfcamdfdfoeaaGreatDoorMac
import Derived.Test.YtknfcamdfdfoeaaGreatDoorZ19
import Derived.Test.YtknfcamdfdfoeaaGreatDoorZ16
import Derived.Test.YtknfcamdfdfoeaaGreatDoorZ21
set_option linter.unusedVariables false
set_option linter.unusedSimpArgs false
set_option maxRecDepth 100000
set_option maxHeartbeats 64000000
namespace Go.Proofs.YtknfcamdfdfoeaaGreatDoor
open Go.RowKit Go.Sort
theorem Jvb (l:List ByteArray) (e:Ex):∀(A:Option Addr) (cap:Nat) (AL:Option Addr) (capL:Nat) (w:World),Jt w e A cap->Qf w l AL capL->e.formed=true->
  Calls Tryz.prog 81 #[exV e A cap,.slice AL l.length capL] w fun r w'=>r = .returned (.bool (e.torn (inL l)))/\Below w.heap.size w w':=by
 induction e using Ex.ind with
 | h e ih=>
 intro A cap AL capL w he hl hf;obtain⟨R,hR⟩:∃R,R=e.torn (inL l):=⟨_,rfl⟩;rw [<-hR];rw [Ex.torn_eq] at hR;have iN:=fun W h=>Jhv l e A cap AL capL W (he.later h) (hl.later h) hf;have ot:=he.len;have cY:=hl.len;unfold maxLen at ot cY;obtain⟨hel1,hel2⟩:=ot;obtain⟨fH,fI⟩:=cY;unfold exV at *
 by_cases hk:e.kind=10
 ·have tk:(e.kind == 10)=true:=Vw;rw [show decide (e.kind=10)=true by simpa using hk,Bool.true_and] at hR;clear hk
  cases hZ:e.reach (inL l)
  ·rw [hZ,Bool.false_or] at hR;have lv:=Nf hZ;have HB:=Nf (by rw [hR];rfl:Ex.tornL (inL l) (e.sub.drop 0)=R);clear hZ hR;exact Tv
  ·rw [hZ,Bool.true_or] at hR;have lv:=Nf hZ;have HR:=Nf hR.symm;clear hZ hR
   go_enter Tryz.func81,Tryz.ntmps81
   go_wp2_with (first|(go_at_call 82;go_loud (refine(iN _ Jb).mono ?_;rw [lv.out];rintro r wh ⟨rfl,dX⟩)))
   exact Udg
 ·have tk:(e.kind == 10)=false:=Vw;rw [show decide (e.kind=10)=false by simpa using hk,Bool.false_and,Bool.false_or] at hR;have HB:=Nf (by rw [hR];rfl:Ex.tornL (inL l) (e.sub.drop 0)=R);clear hk hR iN;exact Tv
theorem Jnx (p:Pr) (a:PrA) (w:World) (hp:Kr w p a) (aw:Q4 p) (n1:p.ins.length<=1000000) (n2:p.outs.length<=1000000) (n3:p.locals.length<=1000000) (n4:p.eqs.length<=1000000) (aS:(J1 p).2.2.2≠0) :
  Calls Tryz.prog 48 #[prV p a] w fun r w'=>r = .returned (fV (J1 p).2)/\Below w.heap.size w w':=by
 have nZ:=fun W h=>Jq1 p a W (hp.later h) aw n1 n2 n3 n4 aS;clear aw;obtain⟨A1,c1,A2,c2,A3,c3,A4,c4⟩:=a;unfold prV fV at *;dsimp only at *;generalize (J1 p).2=O at *;obtain⟨f1,f2,f3⟩:=O;dsimp only at *;have t1:(f3 != 0)=true:=Se;clear aS hp
 go_enter Tryz.func48,Tryz.ntmps48
 go_wp2_with (first|(go_at_call 80;go_loud (refine(nZ _ Jb).mono ?_;rintro r wo ⟨rfl,cW⟩;have jY:=Jg cW;have lz:=Jf cW;have jB:w.heap.size+2<=wo.heap.size:=Ln;have nY:=lt0 w wo;have jA:=ltA w 1 wo)))
 refine Nv (v:= .agg #[.int .i64 f1,.int .i64 f2,.int .i64 f3]) Gu rfl ⟨rfl,?_⟩
 (repeat refine Jh ?_)
 exact Km
theorem Jnw (p:Pr) (a:PrA) (w:World) (hp:Kr w p a) (aw:Q4 p) (n1:p.ins.length<=1000000) (n2:p.outs.length<=1000000) (n3:p.locals.length<=1000000) (n4:p.eqs.length<=1000000) (jM:(J1 p).2=(0,0,0)) :
  Calls Tryz.prog 48 #[prV p a] w fun r w'=>r = .returned (fV (Ks p))/\Below w.heap.size w w':=by
 have hO:Ks p=Zg (Jen p (Qs p).1) 0 p.eqs:=by unfold Ks;rw [if_pos jM]
 have dn:=Jfo (Yg jM).1 aw;have hhr:=fun q hq=>Jwl (p:=p) jM (q:=q) hq;have nZ:=fun W h=>Jq4 p a W (hp.later h) aw n1 n2 n3 n4 jM;have aJ:=fun W h=>Z3 p a W (hp.later h) n1 n2 n3;obtain⟨h,hh⟩:∃h,h=Jen p (Qs p).1:=⟨_,rfl⟩;rw [<-hh] at hO hhr;generalize Ks p=O at *;generalize (Qs p).1=LF at *;have HO:=Nf hO;have HHR:=Nf hhr;have jR:=Nf dn;clear hO hh hhr dn jM aw;have bT:=hp.eqs;have bI:=hp.ins.len;have aD:=hp.outs.len;have cG:=hp.eqs.len;obtain⟨A1,c1,A2,c2,A3,c3,A4,c4⟩:=a;unfold maxLen at bI aD cG;unfold prV fV at *;dsimp only at *;obtain⟨tO,tP⟩:=bI;obtain⟨tQ,tR⟩:=aD;obtain⟨fT,fU⟩:=cG;clear hp
 go_enter Tryz.func48,Tryz.ntmps48
 go_wp2_with (first
  | (go_at_call 80;go_loud (refine(nZ _ Jb).mono ?_;rintro r wo ⟨⟨vo,rfl,ay⟩,cW⟩;obtain⟨Ao,co,rfl,ln,jm⟩:=Jv ay;have hlo:=Qf.of_own ay;have jY:=Jg cW;have lz:=Jf cW;have jB:w.heap.size+2<=wo.heap.size:=Ln;have nY:=lt0 w wo;have jA:=ltA w 1 wo;have hyo3:w.heap.size<wo.heap.size+1:=Ua;have hyo4:w.heap.size+1<wo.heap.size+1:=Ua;clear ay))
  | (go_at_call 26;go_loud (refine(aJ _ Jb).mono ?_;rintro r wv ⟨⟨Av,cv,rfl,ay⟩,dB⟩;have ky:=Jg dB;have lc:=Jf dB;have rP:wo.heap.size+1<=wv.heap.size:=D1;have hyv:=lt0 w wv;have mt:=ltA w 1 wv;have cR:=Ju.of_own ay;clear ay)))
 refine Jo fun W0 ag=>?_;have ax:=Nd w W0 Vl;have qH:=Nd wo W0 Vl;have qI:Qf W0 LF Ao co:=hlo.later qH;have bE:Ju W0 (Je p) Av cv:=Do;have bD:w.heap.size+1<W0.heap.size:=by rw [ag];exact mt
 have rx:=lt0 w W0;have x1:=Nb W0 w.heap.size 1 (.slice A1 p.ins.length c1) Uc;have x2:=Nb W0 w.heap.size 2 (.slice A2 p.outs.length c2) Uc;have x4:=Nb W0 w.heap.size 4 (.slice A4 p.eqs.length c4) Uc;have f0:=Na W0 (w.heap.size+1) 0 0 Uc;have f1:=Na W0 (w.heap.size+1) 1 0 Uc;have f2:=Na W0 (w.heap.size+1) 2 0 Uc;have z0:=Nc W0 (w.heap.size+1) 0 Uc;have z1:=Nc W0 (w.heap.size+1) 1 Uc;have z2:=Nc W0 (w.heap.size+1) 2 Uc;have cY:=bE.len;unfold maxLen at cY;obtain⟨fH,fI⟩:=cY;clear ag jY lz jB nY jA hyo3 hyo4 ky lc rP hyv mt cR nZ aJ hlo cW dB qH;generalize Je p=L at *
 go_loopw [6] (fun i wr=>∃k:Nat,k<=p.eqs.length/\i = .int .i64 k/\Hid (Zg h k (p.eqs.drop k)=O)/\Below W0.heap.size W0 wr) (fun i _=>p.eqs.length-(intOf i).toNat)
 case atStart=>exact⟨0,Np,rfl,Nf (by rw [List.drop_zero];exact HO.out.symm),Nt⟩
 case round=>
  obtain⟨k,hk,rfl,aa,ab⟩:=hrel;have aC:=Nd w wr (Jn ax ab Ua);have hc:=Jg ab;have eh:=Jf ab;have bu:=ab.size;have tL:=lt0 w wr;have wD:=ltA w 1 wr;have hw4:w.heap.size+1<wr.heap.size+1:=Ua;have hw6:w.heap.size<wr.heap.size+1:=Ua
  by_cases am:k<p.eqs.length
  ·obtain⟨q,hx,-,hd⟩:=Kl am;obtain⟨b,off,B1,n1,B2,n2,rfl,aH,⟨g0,g1,g2,g3,g4,g5,g6,g7,g8,g9,s1,s2⟩⟩:=(bT.later aC).get hx;have hr:=aa.out;obtain⟨dn,gX,cM,gV,ju⟩:=jR.out q (Ni hx);obtain⟨j,v,cL,oE,hhq⟩:=HHR.out q (Ni hx);rw [hd,Zg,hhq] at hr;have mX:j<L.length:=(Nh oE).1;obtain⟨bv,ov,rfl,dB,⟨d0,d1,d2,d3⟩⟩:=(bE.later ab).get oE;have jS:=fun W hb=>Xa L (some ⟨bv,ov,none⟩) cv q.name W ((bE.later ab).later hb);rw [cL] at jS;have kq:=qI.later ab;have iN:=fun W hb=>Jhv LF q.e B2 n2 Ao co W (s2.later hb) (kq.later hb) cM;have sb:=fun W hb=>Jvb LF q.e B2 n2 Ao co W (s2.later hb) (kq.later hb) cM;obtain⟨vt,eQ⟩:∃b,b=q.e.torn (inL LF):=⟨_,rfl⟩;obtain⟨vr,jg⟩:∃b,b=q.e.reach (inL LF):=⟨_,rfl⟩;obtain⟨vh,hvh⟩:∃b,Ka LF v.cn=b:=⟨_,rfl⟩;obtain⟨vs,nb⟩:∃b,Ka LF q.name=b:=⟨_,rfl⟩;obtain⟨vd,zW⟩:∃b,(q.delay != 0)=b:=⟨_,rfl⟩;obtain⟨vo,hvo⟩:∃b,decide ((j:Int)<(p.ins.length:Int)+(p.outs.length:Int))=b:=⟨_,rfl⟩;rw [<-eQ] at sb;rw [<-jg] at iN;rw [<-eQ,<-jg,hvh,nb,zW,hvo] at hr;have HVH:=Nf hvh;have HVS:=Nf nb;have tj:(0:Int)<=(j:Int):=Ua;unfold exV at iN sb;clear eQ jg hvh nb hd hx aa gX cM gV ju s1 s2 hhq cL oE d0 d1 d2
   rcases Jsm vt vh vd vr vo vs with ⟨rfl,hh⟩|⟨rfl,rfl,hh⟩|⟨rfl,rfl,rfl,rfl,hh⟩|⟨rfl,rfl,⟨rfl,rfl⟩|rfl,rfl,rfl,hh⟩|⟨rfl,rfl,⟨rfl,rfl⟩|rfl,⟨rfl,rfl⟩|rfl,hh⟩
   iterate 5
    ·rw [hh,if_pos rfl] at hr;have HR:=Nf hr;clear hr hh
     go_wp2_with (first
      | (go_at_call 49;go_loud (refine(jS _ Jb).mono ?_;rintro r w1 ⟨rfl,ac⟩;have ak:=Jg ac;have db:=Jf ac;have af:wr.heap.size+1<=w1.heap.size:=V9;have dG:=lt0 w w1;have cA:=ltA w 1 w1;have kh:=lt0 wr w1;have qZ:bv<w1.heap.size:=Ua))
      | (go_at_call 81;go_loud (refine(sb _ Jb).mono ?_;rintro r w2 ⟨rfl,aq⟩;have dm:=Jg aq;have gO:=Jf aq;have br:=aq.size;have ly:=lt0 w w2;have hye:=ltA w 1 w2;have rU:=lt0 wr w2;have hyy:bv<w2.heap.size:=Ua))
      | (go_at_call_of 54 (Value.string q.name);go_loud (refine(Yu LF Ao co q.name _ (qI.later Jb)).mono ?_;rw [HVS.out];rintro r w5 ⟨rfl,da⟩;have vL:=Jg da;have hf5:=Jf da;have yx:=da.size;have hyp:=ltA w 1 w5))
      | (go_at_call 54;go_loud (refine(Yu LF Ao co v.cn _ (qI.later Jb)).mono ?_;rw [HVH.out];rintro r w3 ⟨rfl,aM⟩;have kE:=Jg aM;have tx:=Jf aM;have fe:=aM.size;have ox:=lt0 w w3;have iZ:=ltA w 1 w3;have hyi:=lt0 wr w3))
      | (go_at_call 82;go_loud (refine(iN _ Jb).mono ?_;rintro r w4 ⟨rfl,ei⟩;have wA:=Jg ei;have hf4:=Jf ei;have qS:=ei.size;have hyj:=lt0 w w4;have hyk:=ltA w 1 w4;have hyl:=lt0 wr w4)))
     refine Nv (v:= .agg #[.int .i64 3,.int .i64 (k:Int),.int .i64 23]) Gu rfl ⟨Tg,?_⟩
     (repeat refine Jh ?_)
     exact Km
   iterate 4
    ·rw [hh,if_neg Ul] at hr;have HR:=Nf hr;clear hr hh
     go_wp2_with (first
      | (go_at_call 49;go_loud (refine(jS _ Jb).mono ?_;rintro r w1 ⟨rfl,ac⟩;have ak:=Jg ac;have db:=Jf ac;have af:wr.heap.size+1<=w1.heap.size:=V9;have dG:=lt0 w w1;have cA:=ltA w 1 w1;have kh:=lt0 wr w1;have qZ:bv<w1.heap.size:=Ua))
      | (go_at_call 81;go_loud (refine(sb _ Jb).mono ?_;rintro r w2 ⟨rfl,aq⟩;have dm:=Jg aq;have gO:=Jf aq;have br:=aq.size;have ly:=lt0 w w2;have hye:=ltA w 1 w2;have rU:=lt0 wr w2;have hyy:bv<w2.heap.size:=Ua))
      | (go_at_call_of 54 (Value.string q.name);go_loud (refine(Yu LF Ao co q.name _ (qI.later Jb)).mono ?_;rw [HVS.out];rintro r w5 ⟨rfl,da⟩;have vL:=Jg da;have hf5:=Jf da;have yx:=da.size;have hyp:=ltA w 1 w5))
      | (go_at_call 54;go_loud (refine(Yu LF Ao co v.cn _ (qI.later Jb)).mono ?_;rw [HVH.out];rintro r w3 ⟨rfl,aM⟩;have kE:=Jg aM;have tx:=Jf aM;have fe:=aM.size;have ox:=lt0 w w3;have iZ:=ltA w 1 w3;have hyi:=lt0 wr w3))
      | (go_at_call 82;go_loud (refine(iN _ Jb).mono ?_;rintro r w4 ⟨rfl,ei⟩;have wA:=Jg ei;have hf4:=Jf ei;have qS:=ei.size;have hyj:=lt0 w w4;have hyk:=ltA w 1 w4;have hyl:=lt0 wr w4)))
     exact Uee
  ·obtain rfl:k=p.eqs.length:=Ua;have hr:=aa.out;rw [Nn,Zg] at hr;have HR:=Nf hr;clear hr aa
   go_wp2_with fail
   refine Nv (v:= .agg #[.int .i64 0,.int .i64 0,.int .i64 0]) Gu rfl ⟨Tg,?_⟩
   (repeat refine Jh ?_)
   exact Km
theorem Jjw (p:Pr) (a:PrA) (w:World) (hp:Kr w p a) (aw:Q4 p) (n1:p.ins.length<=1000000) (n2:p.outs.length<=1000000) (n3:p.locals.length<=1000000) (n4:p.eqs.length<=1000000) :
  Calls Tryz.prog 48 #[prV p a] w fun r w'=>r = .returned (fV (Ks p))/\Below w.heap.size w w':=by
 by_cases hO:(J1 p).2=(0,0,0)
 ·exact Jnw p a w hp aw n1 n2 n3 n4 hO
 ·have h:=Jnx p a w hp aw n1 n2 n3 n4 (Jpj hO);rw [show Ks p=(J1 p).2 by unfold Ks;rw [if_neg hO]];exact h
end Go.Proofs.YtknfcamdfdfoeaaGreatDoor
