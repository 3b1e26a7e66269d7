/- Lemmas. -/
import Derived.Test.YtknfcamdfdfoeaaGreatDoorMac
import Derived.Test.YtknfcamdfdfoeaaGreatDoorZ18
import Derived.Test.YtknfcamdfdfoeaaGreatDoorZ12
import Derived.Test.YtknfcamdfdfoeaaGreatDoorZ16
set_option linter.unusedVariables false
set_option linter.unusedSimpArgs false
set_option maxRecDepth 100000
set_option maxHeartbeats 64000000
namespace Go.Proofs.YtknfcamdfdfoeaaGreatDoor
open Go.RowKit Go.Sort
theorem Jhv (l:List ByteArray) (e:Ex):∀(A:Option Addr) (cap:Nat) (AL:Option Addr) (capL:Nat) (w:World),Jt w e A cap->Qf w l AL capL->e.formed=true->
  Calls Tryz.prog 82 #[exV e A cap,.slice AL l.length capL] w fun r w'=>r = .returned (.bool (e.reach (inL l)))/\Below w.heap.size w w':=by
 induction e using Ex.ind with
 | h e ih=>
 intro A cap AL capL w he hl hf;obtain⟨R,hR⟩:∃R,R=e.reach (inL l):=⟨_,rfl⟩;rw [<-hR];rw [Ex.reach_eq,show inL l e.name=(!e.name.toList.isEmpty && Ka l e.name) from rfl] at hR;have ot:=he.len;have cY:=hl.len;unfold maxLen at ot cY;obtain⟨hel1,hel2⟩:=ot;obtain⟨fH,fI⟩:=cY;unfold exV at *
 cases hem:e.name.toList.isEmpty
 ·cases hh:Ka l e.name
  ·have HH:=Nf hh;rw [hem,hh,Bool.and_false,Bool.false_or] at hR;clear hh;exact Tk
  ·have HH:=Nf hh;rw [hem,hh] at hR;have HR:=Nf (by rw [hR];rfl:true=R);clear hh hR
   go_enter Tryz.func82,Tryz.ntmps82
   go_wp2_with (first|(go_at_call 54;refine(Yu l AL capL e.name _ (hl.later Jb)).mono ?_;rw [HH.out];rintro r wh ⟨rfl,dX⟩))
   exact Udg
 ·rw [hem,Bool.not_true,Bool.false_and,Bool.false_or] at hR;exact Tk
theorem Jq1 (p:Pr) (a:PrA) (w:World) (hp:Kr w p a) (aw:Q4 p) (n1:p.ins.length<=1000000) (n2:p.outs.length<=1000000) (n3:p.locals.length<=1000000) (n4:p.eqs.length<=1000000) (aS:(J1 p).2.2.2≠0) :
  Calls Tryz.prog 80 #[prV p a] w fun r w'=>r = .returned (.tuple #[.slice none 0 0,fV (J1 p).2])/\Below w.heap.size w w':=by
 have dY:=fun W h=>Jg8 p a W (hp.later h) aw n1 n2 n3 n4;clear aw;obtain⟨A1,c1,A2,c2,A3,c3,A4,c4⟩:=a;unfold prV fV at *;dsimp only at *;generalize J1 p=O at *;obtain⟨l,f1,f2,f3⟩:=O;dsimp only at *;have t1:(f3 != 0)=true:=Se;clear aS hp
 go_enter Tryz.func80,Tryz.ntmps80
 go_wp2_with (first|(go_at_call 29;go_loud (refine(dY _ Jb).mono ?_;rintro r wo ⟨⟨vo,rfl,ay⟩,cW⟩;obtain⟨Ao,co,rfl,ln,jm⟩:=Jv ay;have jY:=Jg cW;have lz:=Jf cW;have jB:w.heap.size+2<=wo.heap.size:=Ln;have nY:=lt0 w wo;have jA:=ltA w 1 wo;clear ay)))
 go_region
 all_goals
  go_wp2_with fail
  refine Nv (v:= .tuple #[.slice none 0 0,.agg #[.int .i64 f1,.int .i64 f2,.int .i64 f3]]) (by simp [results,Tryz.results80,go_sem, *]) rfl ⟨rfl,?_⟩
  (repeat refine Jh ?_)
  exact Km
theorem Jq4 (p:Pr) (a:PrA) (w:World) (hp:Kr w p a) (aw:Q4 p) (n1:p.ins.length<=1000000) (n2:p.outs.length<=1000000) (n3:p.locals.length<=1000000) (n4:p.eqs.length<=1000000) (jM:(J1 p).2=(0,0,0)) :
  Calls Tryz.prog 80 #[prV p a] w fun r w'=>(∃v,r = .returned (.tuple #[v,fV (0,0,0)])/\w'.ownsRow w.heap.size 9 1 v (Qs p).1.length ((Qs p).1.map .string))/\Below w.heap.size w w':=by
 obtain⟨LF,nl⟩:∃L,L=(Qs p).1:=⟨_,rfl⟩;have hL:LF=Xj p.eqs (Jbj p.eqs) (J1 p).1:=by rw [nl];unfold Qs;rw [if_pos jM]
 rw [<-nl];obtain⟨aN,ai,fm⟩:=Yg jM;have dn:=Jfo aN aw;have dY:=fun W h=>Jg8 p a W (hp.later h) aw n1 n2 n3 n4;obtain⟨l,hl⟩:∃l,J1 p=(l,(0,0,0)):=⟨(J1 p).1,by rw [<-jM]⟩;rw [hl] at dY hL fm ai;dsimp only at dY hL fm ai;have HL:=Nf hL;have HG:=Nf fm;have jR:=Nf dn;clear nl hL jM aN dn fm hl aw;have bT:=hp.eqs;have cG:=hp.eqs.len;obtain⟨A1,c1,A2,c2,A3,c3,A4,c4⟩:=a;unfold maxLen at cG;unfold prV fV at *;dsimp only at *;obtain⟨fT,fU⟩:=cG;clear hp
 go_enter Tryz.func80,Tryz.ntmps80
 go_wp2_with (first|(go_at_call 29;go_loud (refine(dY _ Jb).mono ?_;rintro r wo ⟨⟨vo,rfl,ay⟩,cW⟩;obtain⟨Ao,co,rfl,ln,jm⟩:=Jv ay;have lr:=Yq.of_own ay;have jY:=Jg cW;have lz:=Jf cW;have jB:w.heap.size+2<=wo.heap.size:=Ln;have nY:=lt0 w wo;have jA:=ltA w 1 wo;clear ay)))
 refine Jo fun W0 ag=>?_;have ax:=Nd w W0 Vl;have bD:w.heap.size+1<W0.heap.size:=Su;have rx:=lt0 w W0;have rY:=Nd wo W0 Vl;have hio1:Yq W0 l Ao co:=lr.later rY;have x4:=Nb W0 w.heap.size 4 (.slice A4 p.eqs.length c4) Uc;have f0:=Na W0 (w.heap.size+1) 0 0 Uc;have f1:=Na W0 (w.heap.size+1) 1 0 Uc;have f2:=Na W0 (w.heap.size+1) 2 0 Uc;have z0:=Nc W0 (w.heap.size+1) 0 Uc;have z1:=Nc W0 (w.heap.size+1) 1 Uc;have z2:=Nc W0 (w.heap.size+1) 2 Uc;have bI:=lr.1;unfold maxLen at jm;clear ag jY lz jB nY jA dY lr rY cW
 go_loopw [6,7] (fun o i wr=>∃(k:Nat) (D:Option Addr) (dc:Nat) (R:List ByteArray),k<=p.eqs.length/\i = .int .i64 k/\o = .slice D R.length dc/\R.length<=k/\Hid (R=Jbj (p.eqs.take k))/\Hid (wr.ownsRow W0.heap.size 9 1 (.slice D R.length dc) R.length (R.map .string))/\Below W0.heap.size W0 wr) (fun _ i _=>p.eqs.length-(intOf i).toNat)
 case atStart=>exact⟨0,none,0,[],Np,rfl,rfl,Ns _,Nf rfl,Nf (Nw),Nt⟩
 case round=>
  obtain⟨k,D,dc,R,hk,rfl,rfl,hRl,hR,ae,ab⟩:=hrel;have aC:=Nd w wr (Jn ax ab Ua);have hc:=Jg ab;have bu:=ab.size
  by_cases am:k<p.eqs.length
  ·obtain⟨q,hx,-,hd⟩:=Kl am;obtain⟨b,off,B1,n1,B2,n2,rfl,aH,⟨g0,g1,g2,g3,g4,g5,g6,g7,g8,g9,s1,s2⟩⟩:=(bT.later aC).get hx;have jk:=Jlf p.eqs hx;rw [<-hR.out] at jk;have ba:=ae.out;clear hd hx hR g2 g3 g4 g5 g6 g7 g8 g9 s1 s2
   cases ek:(q.delay == 2)
   ·rw [ek,if_neg Ul] at jk;have HP:=Nf jk.symm;clear jk
    go_wp2_with fail
    go_roundw
    case rel=>exact⟨k+1,D,dc,R,Ua,Up,rfl,Ua,HP,ae,Jb⟩
    case measure=>simp [intOf];try omega
   ·rw [ek,if_pos rfl] at jk;have HP:=Nf jk.symm;clear jk
    go_wp2_with (first|(at_builtin;go_loud (refine Kap rfl (.tmp 32) (.tmp 39) 121 rfl W0.heap.size 9 _ 1 16 Tryz.underlying121 Zq rfl Ua (.slice D R.length dc) R.length (R.map .string) _ 1 [.string q.name] rfl (Js ba) rfl rfl (fun j u hj=>U9) Uv Ua Ua Uj ?_;intro v2 w2 ao aq;have br:=aq.size;(try simp at br);obtain⟨A2',cv2,rfl,it,iu⟩:=Jv ao)))
    go_roundw
    case rel=>exact⟨k+1,A2',cv2,R ++ [q.name],Ua,Up,Ul,Uj,HP,Nf (by rw [List.map_append,Nk];exact ao),Jb⟩
    case measure=>simp [intOf];try omega
  ·obtain rfl:k=p.eqs.length:=Ua;have hr:=hR.out;rw [List.take_length] at hr;have HL2:=Nf (by rw [hr];exact HL.out.symm:Xj p.eqs R l=LF);clear hr hR
   go_wp2_with fail
   clear aC hc bu HL
   go_loopw [6,8] (fun o i wr=>∃(k:Nat) (D:Option Addr) (dc:Nat) (R:List ByteArray),k<=l.length/\i = .int .i64 k/\o = .slice D R.length dc/\R.length<=p.eqs.length+k/\Hid (Xj p.eqs R (l.drop k)=LF)/\Hid (wr.ownsRow W0.heap.size 9 1 (.slice D R.length dc) R.length (R.map .string))/\Below W0.heap.size W0 wr) (fun _ i _=>l.length-(intOf i).toNat)
   case atStart=>exact⟨0,D,dc,R,Np,rfl,rfl,Ua,Nf (by rw [List.drop_zero];exact HL2.out),ae,ab⟩
   case round=>
    clear HL2 ae ab;obtain⟨k,D,dc,R,hk,rfl,rfl,hRl,aa,ae,ab⟩:=hrel;have aC:=Nd w wr (Jn ax ab Ua);have hc:=Jg ab;have eh:=Jf ab;have bu:=ab.size;have qn:=lt0 w wr
    by_cases am:k<l.length
    ·have hx:l[k]?=some l[k]:=Ng am;have hd:l.drop k=l[k] :: l.drop (k+1):=No am;generalize l[k]=j at hx hd;obtain⟨m,q,rfl,hq⟩:=HG.out k j hx;have yp:m<p.eqs.length:=(Nh hq).1;obtain⟨bi,oi,rfl,pU,di⟩:=(hio1.later ab).get hx;obtain⟨b,off,B1,m1,B2,m2,rfl,aH,⟨g0,g1,g2,g3,g4,g5,g6,g7,g8,g9,s1,s2⟩⟩:=(bT.later aC).get hq;obtain⟨dn,gX,cM,gV,ju⟩:=jR.out q (Ni hq);have hr:=aa.out;rw [hd,Xj,Int.toNat_natCast,hq] at hr;dsimp only at hr;have lf:=Qf.of_own ae.out;have iN:=fun W h=>Jhv R q.e B2 m2 D dc W (s2.later h) (lf.later h) cM;unfold exV at iN;clear hd hx hq aa cM gV ju gX dn s1 s2 g1 g2 g3 g4 g5
     cases eY:q.e.reach (inL R)
     ·rw [eY,if_neg Ul] at hr;rw [eY] at iN;have HR:=Nf hr;clear eY hr
      go_wp2_with fail
      refine Jx Ug Ug (fun bj=>?_)
      repeat (quiet_step ((first|(go_at_call 82;exact Calls.regrown_of (iN _ Jb)))))
      refine wpQuiet_nil ?_;intro wq au;replace au:=qbo au;obtain⟨au,dA,bh⟩:=au;clear bj
      (try simp at bh)
      go_wp2_with fail
      go_roundw
      case rel=>exact⟨k+1,D,dc,R,Ua,Up,rfl,Ua,HR,Nf (Jy ae.out au),Jb⟩
      case measure=>simp [intOf];try omega
     ·rw [eY,if_pos rfl] at hr;rw [eY] at iN;have HR:=Nf hr;clear eY hr
      go_wp2_with fail
      refine Jx Ug Ug (fun bj=>?_)
      repeat (quiet_step ((first|(go_at_call 82;exact Calls.regrown_of (iN _ Jb)))))
      refine wpQuiet_nil ?_;intro wq au;replace au:=qbo au;obtain⟨au,dA,bh⟩:=au;clear bj
      (try simp at bh)
      have dA:=Jg au;have bh:=au.size;have wB:=lt0 w wq;have nw:b<wq.heap.size:=Ua;have kb:bi<wq.heap.size:=Ua;have hownq:=Jy ae.out au
      go_wp2_with fail
      go_region_law (first
       | (refine Jg1 rfl (.tmp 58) (.tmp 68) 121 rfl W0.heap.size 9 _ 1 16 Tryz.underlying121 Zq rfl Ua (.slice D R.length dc) R.length (R.map .string) (some ⟨wq.heap.size,0,none⟩) 1 1 [.string q.name] rfl (Js (Kp hownq)) rfl ⟨rfl,fun _=>⟨_,_,rfl,fun j u hj=>by rw [Nat.zero_add];exact(Qo Ul).trans Sg⟩⟩ Uv Ua Ua Uj ?_;intro v9 w9 dL nh;go_loud (obtain⟨A9,c9,rfl,hc91,hc92⟩:=Jv dL)))
      all_goals
       go_wp2_with fail
       go_roundw
       case rel=>exact⟨k+1,A9,c9,R ++ [q.name],Ua,Up,Ul,Uj,HR,Nf (by rw [List.map_append,Nk];exact dL),Jb⟩
       case measure=>simp [intOf];try omega
    ·obtain rfl:k=l.length:=Ua;have hr:=aa.out;rw [Nn,Xj] at hr;subst hr;have ql:=ae.out;clear aa
     go_wp2_with fail
     refine Nv (v:= .tuple #[.slice D R.length dc,.agg #[.int .i64 0,.int .i64 0,.int .i64 0]]) (by simp [results,Tryz.results80,go_sem, *]) rfl ⟨⟨.slice D R.length dc,rfl,?_⟩,?_⟩
     ·exact Ubw
     ·(repeat refine Jh ?_)
      exact Km
theorem Jwk (B n:Nat) (f:ByteArray->Option Int) (e:Ex):∀(A:Option Addr) (cap:Nat) (w:World),Jt w e A cap->e.formed=true->e.OK->e.size<=1000000->Jz Tryz.prog 9 3 w B n f->
  Calls Tryz.prog 109 #[.map (some B),exV e A cap] w fun r w'=>r = .returned (.bool (e.torn (onM f)))/\Below w.heap.size w w':=by
 induction e using Ex.ind with
 | h e ih=>
 intro A cap w he hf aw hz hm;obtain⟨R,hR⟩:∃R,R=e.torn (onM f):=⟨_,rfl⟩;rw [<-hR];rw [Ex.torn_eq] at hR;have eY:=fun W h=>Jgc e A cap B n f W (he.later h) hf aw hz (hm.bel h);have hoks:Ex.OKL e.sub:=by cases e;simp only [Ex.OK] at aw;exact aw.2.2.2
 have hse:=Ex.size_eq e;have ot:=he.len;unfold maxLen at ot;obtain⟨hel1,hel2⟩:=ot;unfold exV at *
 by_cases hk:e.kind=10
 ·have tk:(e.kind == 10)=true:=Vw;rw [show decide (e.kind=10)=true by simpa using hk,Bool.true_and] at hR;clear hk
  cases hZ:e.reach (onM f)
  ·rw [hZ,Bool.false_or] at hR;have lv:=Nf hZ;have HB:=Nf (by rw [hR];rfl:Ex.tornL (onM f) (e.sub.drop 0)=R);clear hZ hR aw;exact Tw
  ·rw [hZ,Bool.true_or] at hR;have lv:=Nf hZ;have HR:=Nf hR.symm;clear hZ hR aw
   go_enter Tryz.func109,Tryz.ntmps109
   go_wp2_with (first|(go_at_call 108;go_loud (refine(eY _ Jb).mono ?_;rw [lv.out];rintro r wh ⟨rfl,dX⟩)))
   exact Udg
 ·have tk:(e.kind == 10)=false:=Vw;rw [show decide (e.kind=10)=false by simpa using hk,Bool.false_and,Bool.false_or] at hR;have HB:=Nf (by rw [hR];rfl:Ex.tornL (onM f) (e.sub.drop 0)=R);clear hk hR aw eY;exact Tw
end Go.Proofs.YtknfcamdfdfoeaaGreatDoor
