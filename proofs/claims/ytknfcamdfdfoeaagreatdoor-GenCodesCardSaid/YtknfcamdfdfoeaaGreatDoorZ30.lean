/- Lemmas. -/
import Derived.Test.YtknfcamdfdfoeaaGreatDoorMac
import Derived.Test.YtknfcamdfdfoeaaGreatDoorZ28
import Derived.Test.YtknfcamdfdfoeaaGreatDoorZ29
import Derived.Test.YtknfcamdfdfoeaaGreatDoorZ13
import Derived.Test.YtknfcamdfdfoeaaGreatDoorZ27
import Derived.Test.YtknfcamdfdfoeaaGreatDoorZ14
import Derived.Test.YtknfcamdfdfoeaaGreatDoorZ24
import Derived.Test.YtknfcamdfdfoeaaGreatDoorZ16
set_option linter.unusedVariables false
set_option linter.unusedSimpArgs false
set_option maxRecDepth 100000
set_option maxHeartbeats 64000000
namespace Go.Proofs.YtknfcamdfdfoeaaGreatDoor
open Go.RowKit Go.Sort
theorem Jts (p:Pr):Ym p=⟨#[110,111,100,101,32]⟩ ++ p.name ++ ⟨#[32,40]⟩ ++ Y0 p.ins ++ ⟨#[41,32,114,101,116,117,114,110,115,32,40]⟩ ++ Y0 p.outs ++ ⟨#[41,59,10]⟩:=by
 unfold Ym;rw [Jij,Jij];apply WideShapes.bytes_inj;simp
theorem Jyf (s d:ByteArray):s ++ ⟨#[32,32]⟩ ++ d ++ ⟨#[59,10]⟩=s ++ (⟨#[32,32]⟩ ++ d ++ ⟨#[59,10]⟩):=by
 ext1;simp
theorem Jk6 (s:ByteArray) (q:Qe):Jhz s q =
  (if q.delay=1 then s ++ ⟨#[32,32]⟩ ++ q.name ++ ⟨#[32,61,32]⟩ ++ q.first.showB ++ ⟨#[32,102,98,121,32]⟩ else if q.delay=2 then s ++ ⟨#[32,32]⟩ ++ q.name ++ ⟨#[32,61,32]⟩ ++ ⟨#[112,114,101,32]⟩ else s ++ ⟨#[32,32]⟩ ++ q.name ++ ⟨#[32,61,32]⟩) ++ q.e.showB ++ ⟨#[59,10]⟩:=by
 unfold Jhz
 split
 ·ext1;simp
 ·split
  ·ext1;simp
  ·ext1;simp
theorem Jjs {l:List Va} (h:∀v∈l,Jb8 v):(Y0 l).size<=62 * l.length:=by
 have:=Jcl l h 0 ⟨#[]⟩;unfold Y0;simp only [Ko,List.size_toArray,List.length_nil] at this;exact Ua
theorem Jfl (p:Pr) (a:PrA) (w:World) (hp:Kr w p a) (aw:Q4 p) (n1:p.ins.length<=1000000) (n2:p.outs.length<=1000000) (n3:p.locals.length<=1000000) (n4:p.eqs.length<=1000000) :
  Calls Tryz.prog 117 #[prV p a] w fun r w'=>r = .returned (.tuple #[.string (X8 p),.int .i64 (K5 p)])/\Below w.heap.size w w':=by
 have bI:=hp.ins.len;have aD:=hp.outs.len;have fD:=hp.locals.len;have cG:=hp.eqs.len;unfold maxLen at bI aD fD cG;obtain⟨bI,iw⟩:=bI;obtain⟨aD,cI⟩:=aD;obtain⟨fD,kV⟩:=fD;obtain⟨cG,sS⟩:=cG;have gd:=fun W h=>Jo2 p a W (hp.later h) aw;obtain⟨A1,c1,A2,c2,A3,c3,A4,c4⟩:=a;unfold prV at gd ⊢;dsimp only at *
 cases hw:Qw p
 ·have hv:K5 p=4:=Sh;have hs:X8 p=⟨#[]⟩:=Mz;have HS:=Lib.hid hs;clear hs;have HV:=Lib.hid hv;clear hv
  go_enter Tryz.func117,Tryz.ntmps117
  go_wp2_with (first|(go_at_call 133;refine(gd _ Jb).mono ?_;rintro r w1 ⟨rfl,ac⟩;have ⟨ak,af⟩:=aft ac;(try simp at af)))
  go_ret2
  exact⟨by rw [HV.out,HS.out];rfl,Jb⟩
 obtain⟨aL,jT,jb,lj,qt⟩:=X4 hw;have hv:K5 p=if 4096<(Jal p).size then 3 else 0:=Sh;have HV:=Lib.hid hv;clear hv;have vS:=Lib.hid lj;clear lj;have qu:=Lib.hid qt;clear qt;have mC:=fun W h=>Jm4 p.ins A1 c1 jT n1 W (hp.ins.later h);have mD:=fun W h=>Jm4 p.outs A2 c2 jb n2 W (hp.outs.later h);have z1:=Jjs jT;have z2:=Jjs jb;clear jT jb;have HPB:=Lib.hid (show Jal p=Zs (Xr (if 0<p.locals.length then Ym p ++ ⟨#[118,97,114,10]⟩ else Ym p) p.locals ++ ⟨#[108,101,116,10]⟩) p.eqs ++ ⟨#[116,101,108,10]⟩ from rfl);have HHD:=Lib.hid (Jts p);have y1:¬9223372036854775807<5+p.name.size:=Ua;have y2:¬9223372036854775807<5+p.name.size+2:=Ua;have y3:¬9223372036854775807<5+p.name.size+2+(Y0 p.ins).size:=Ua;have y4:¬9223372036854775807<5+p.name.size+2+(Y0 p.ins).size+11:=Ua;have y5:¬9223372036854775807<5+p.name.size+2+(Y0 p.ins).size+11+(Y0 p.outs).size:=Ua;have y6:¬9223372036854775807<5+p.name.size+2+(Y0 p.ins).size+11+(Y0 p.outs).size+3:=Ua;generalize Y0 p.ins=t1 at *;generalize Y0 p.outs=t2 at *
 go_enter Tryz.func117,Tryz.ntmps117
 go_wp2_with (first|(go_at_call 133;refine(gd _ Jb).mono ?_;rintro r w1 ⟨rfl,ac⟩;have ⟨ak,af⟩:=aft ac;(try simp at af)))
 have hy1':w.heap.size<w1.heap.size:=Ua;refine Jx Ug Ug (fun bj=>?_)
 repeat (quiet_step ((first|(go_at_call_of 134 A1;exact Calls.regrown_of (mC _ Jb))|(go_at_call_of 134 A2;exact Calls.regrown_of (mD _ Jb)))))
 refine wpQuiet_nil ?_;intro wq au;replace au:=qbo au;obtain⟨au,dA,bh⟩:=au;clear bj
 (try simp at bh)
 by_cases qv:0<p.locals.length
 ·have qw:(if 0<p.locals.length then Ym p ++ ⟨#[118,97,114,10]⟩ else Ym p)=Ym p ++ ⟨#[118,97,114,10]⟩:=if_pos qv;have vT:=Lib.hid qw;clear qw
  go_wp2_with fail
  refine Jo fun W0 ag=>?_;have ax:Below w.heap.size w W0:=Uo;have bD:w.heap.size<W0.heap.size:=Lk;have k3:W0.cell? ⟨w.heap.size,3,none⟩=some (.slice A3 p.locals.length c3):=Uc;have k4:W0.cell? ⟨w.heap.size,4,none⟩=some (.slice A4 p.eqs.length c4):=Uc;clear ag;have ip:=hp.locals.later ax;have bT:=hp.eqs.later ax;dsimp only at ip bT
  go_loopw [4,5] (fun o i wr=>∃(k:Nat) (s:ByteArray),k<=p.locals.length/\i = .int .i64 k/\o = .string s/\s.size<=200000000+70 * k/\Xr s (p.locals.drop k)=Xr (Ym p ++ ⟨#[118,97,114,10]⟩) p.locals/\Below W0.heap.size W0 wr) (fun _ i _=>p.locals.length-(intOf i).toNat)
  case atStart=>exact⟨0,_,Nat.zero_le _,rfl,rfl,Uk,Tc,Below.refl _ _⟩
  case round=>
   obtain⟨k,sx,hk,rfl,rfl,rV,aa,ab⟩:=hrel;have hc:=Jg ab;have bu:=ab.size;have fF:w.heap.size<wr.heap.size:=Ua
   by_cases am:k<p.locals.length
   ·obtain⟨x,hx,-,hd⟩:=Kl am;obtain⟨b,off,rfl,aH,⟨d0,d1,d2,d3⟩⟩:=(ip.later ab).get hx;rw [hd,Xr,<-Jyf] at aa;have mn:=vS.out x (List.mem_of_getElem? hx);have hds:=Jc9 mn;have eA:=fun W=>Jml x mn W;unfold vaV at eA;have HR:=Lib.hid aa;clear aa hd hx;exact Ubc
   ·exact Ue0
 ·have qw:(if 0<p.locals.length then Ym p ++ ⟨#[118,97,114,10]⟩ else Ym p)=Ym p:=if_neg qv;have vT:=Lib.hid qw;clear qw
  go_wp2_with fail
  refine Jo fun W0 ag=>?_;have ax:Below w.heap.size w W0:=Uo;have bD:w.heap.size<W0.heap.size:=Lk;have k3:W0.cell? ⟨w.heap.size,3,none⟩=some (.slice A3 p.locals.length c3):=Uc;have k4:W0.cell? ⟨w.heap.size,4,none⟩=some (.slice A4 p.eqs.length c4):=Uc;clear ag;have ip:=hp.locals.later ax;have bT:=hp.eqs.later ax;dsimp only at ip bT
  go_loopw [4,5] (fun o i wr=>∃(k:Nat) (s:ByteArray),k<=p.locals.length/\i = .int .i64 k/\o = .string s/\s.size<=200000000+70 * k/\Xr s (p.locals.drop k)=Xr (Ym p) p.locals/\Below W0.heap.size W0 wr) (fun _ i _=>p.locals.length-(intOf i).toNat)
  case atStart=>exact⟨0,_,Nat.zero_le _,rfl,rfl,Uk,Tc,Below.refl _ _⟩
  case round=>
   obtain⟨k,sx,hk,rfl,rfl,rV,aa,ab⟩:=hrel;have hc:=Jg ab;have bu:=ab.size;have fF:w.heap.size<wr.heap.size:=Ua
   by_cases am:k<p.locals.length
   ·exfalso;omega
   ·exact Ue0
theorem Jq3 (p:Pr) (a:PrA) (w:World) (hp:Kr w p a) (aw:Q4 p) (n1:p.ins.length<=1000000) (n2:p.outs.length<=1000000) (n3:p.locals.length<=1000000) (n4:p.eqs.length<=1000000) (he:K5 p≠0) :
  Calls Tryz.prog 84 #[prV p a] w fun r w'=>r = .returned (fV (J7 p))/\Below w.heap.size w w':=by
 have hv:J7 p=(4,0,K5 p):=by unfold J7;rw [if_pos he]
 have bN:=fun W h=>Jfl p a W (hp.later h) aw n1 n2 n3 n4;have he':(K5 p != 0)=true:=Ta;clear he aw;obtain⟨A1,c1,A2,c2,A3,c3,A4,c4⟩:=a;unfold prV at *;unfold fV;dsimp only at *;have HV:=Lib.hid hv;clear hv
 go_enter Tryz.func84,Tryz.ntmps84
 go_wp2_with (go_at_call 117;refine(bN _ Jb).mono ?_;rintro r w1 ⟨rfl,ac⟩;have ak:=Jg ac;have tH:=Jf ac;have af:=ac.size;(try simp at af))
 refine bodyPost_ret (v:= .agg #[.int .i64 (4),.int .i64 (0),.int .i64 (K5 p)]) Vz rfl ⟨Vp,?_⟩;exact Km
theorem Jr7 (p:Pr) (a:PrA) (w:World) (hp:Kr w p a) (aw:Q4 p) (n1:p.ins.length<=1000000) (n2:p.outs.length<=1000000) (n3:p.locals.length<=1000000) (n4:p.eqs.length<=1000000) (he:K5 p=0)
  (dP:8<p.ins.length\/8<p.outs.length\/24<(Je p).length) :
  Calls Tryz.prog 84 #[prV p a] w fun r w'=>r = .returned (fV (J7 p))/\Below w.heap.size w w':=by
 have hv:J7 p=(4,0,3):=by unfold J7;rw [if_neg Ua,if_pos dP]
 have bN:=fun W h=>Jfl p a W (hp.later h) aw n1 n2 n3 n4;have aJ:=fun W h=>Z3 p a W (hp.later h) n1 n2 n3;rw [he] at bN;clear he aw;obtain⟨A1,c1,A2,c2,A3,c3,A4,c4⟩:=a;unfold prV at *;unfold fV;dsimp only at *
 by_cases g1:8<p.ins.length
 ·exact B0
 by_cases g2:8<p.outs.length
 ·exact B0
 have g3:24<(Je p).length:=Ua;clear dP;have HV:=Lib.hid hv;clear hv
 go_enter Tryz.func84,Tryz.ntmps84
 go_wp2_with (first|(go_at_call 117;refine(bN _ Jb).mono ?_;rintro r wa ⟨rfl,aA⟩;have aW:=Jg aA;have bS:=Jf aA;have cN:w.heap.size+2<=wa.heap.size:=Ut;have dG:w.heap.size<wa.heap.size:=Ua;have mj:w.heap.size+1<wa.heap.size:=Ua)|(go_at_call 26;refine(aJ _ Jb).mono ?_;rintro r wb ⟨⟨A,cap,rfl,ae⟩,aH⟩;have el:=Jg aH;have mJ:=Jf aH;have dH:=aH.size;have cA:w.heap.size<wb.heap.size:=Ua;have mm:w.heap.size+1<wb.heap.size:=Ua;have cR:=Ju.of_own ae))
 refine bodyPost_ret (v:= .agg #[.int .i64 (4),.int .i64 (0),.int .i64 (3)]) Vz rfl ⟨Vp,?_⟩;exact Km
theorem Jom (p:Pr) (a:PrA) (w:World) (hp:Kr w p a) (aw:Q4 p) (n1:p.ins.length<=1000000) (n2:p.outs.length<=1000000) (n3:p.locals.length<=1000000) (n4:p.eqs.length<=1000000) (he:K5 p=0)
  (g1:p.ins.length<=8) (g2:p.outs.length<=8) (g3:(Je p).length<=24) :
  Calls Tryz.prog 84 #[prV p a] w fun r w'=>r = .returned (fV (J7 p))/\Below w.heap.size w w':=by
 have dD:J7 p=Jhl p (Jah (Je p) 0 (Je p)):=by unfold J7;rw [if_neg Ua,if_neg Ua]
 have dn:=(X4 (Z5 he)).2.2.2.2;have bN:=fun W h=>Jfl p a W (hp.later h) aw n1 n2 n3 n4;have aJ:=fun W h=>Z3 p a W (hp.later h) n1 n2 n3;have hreq:=Lib.hid (fun(k:Nat) (q:Qe) (hq:p.eqs[k]?=some q) (W:World) (h:Below w.heap.size w W)=>Jvl p a k q W (hp.later h) hq (dn q (List.mem_of_getElem? hq)) (aw.eqs q (List.mem_of_getElem? hq)).2.2.1 (aw.eqs q (List.mem_of_getElem? hq)).2.2.2 n1 n2 n3 n4);rw [he] at bN;clear he aw;have kC:p.ins.length<=(Je p).length:=by simp [Je]
 have jQ:=Lib.hid dD;clear dD dn;have bT:=hp.eqs;have oM:=hp.eqs.len;obtain⟨A1,c1,A2,c2,A3,c3,A4,c4⟩:=a;unfold maxLen at oM;unfold prV at *;unfold fV;dsimp only at *;obtain⟨tC,tD⟩:=oM;have HIL:=Lib.hid kC;clear kC;generalize hL:Je p=L at *;have HL:=Lib.hid hL;clear hL
 go_enter Tryz.func84,Tryz.ntmps84
 go_wp2_with (first|(go_at_call 117;refine(bN _ Jb).mono ?_;rintro r wa ⟨rfl,aA⟩;have aW:=Jg aA;have bS:=Jf aA;have cN:w.heap.size+2<=wa.heap.size:=Ut;have dG:w.heap.size<wa.heap.size:=Ua;have mj:w.heap.size+1<wa.heap.size:=Ua)|(go_at_call 26;refine(aJ _ Jb).mono ?_;rintro r wb ⟨⟨A,cap,rfl,ae⟩,aH⟩;have el:=Jg aH;have mJ:=Jf aH;have dH:=aH.size;have cA:w.heap.size<wb.heap.size:=Ua;have mm:w.heap.size+1<wb.heap.size:=Ua;have cR:=Ju.of_own ae))
 refine Jo fun W0 ag=>?_;have ax:Below w.heap.size w W0:=Uo;have bD:w.heap.size<W0.heap.size:=Lk;have iq:w.heap.size+1<W0.heap.size:=Lk;have bE:Ju W0 L A cap:=Do;have p0:W0.cell? ⟨w.heap.size,0,none⟩=some (.string p.name):=Uc;have p1:W0.cell? ⟨w.heap.size,1,none⟩=some (.slice A1 p.ins.length c1):=Uc;have p2:W0.cell? ⟨w.heap.size,2,none⟩=some (.slice A2 p.outs.length c2):=Uc;have p3:W0.cell? ⟨w.heap.size,3,none⟩=some (.slice A3 p.locals.length c3):=Uc;have p4:W0.cell? ⟨w.heap.size,4,none⟩=some (.slice A4 p.eqs.length c4):=Uc;have f0:W0.cell? ⟨w.heap.size+1,0,none⟩=some (.int .i64 0):=Uc;have f1:W0.cell? ⟨w.heap.size+1,1,none⟩=some (.int .i64 0):=Uc;have f2:W0.cell? ⟨w.heap.size+1,2,none⟩=some (.int .i64 0):=Uc;have z0:W0.frozen? ⟨w.heap.size+1,0,none⟩=false:=Uc;have z1:W0.frozen? ⟨w.heap.size+1,1,none⟩=false:=Uc;have z2:W0.frozen? ⟨w.heap.size+1,2,none⟩=false:=Uc;have oc:=bT.later ax;have cY:=bE.len;unfold maxLen at cY;obtain⟨fH,fI⟩:=cY;clear ag bN aJ ae cR aW el bS mJ hp bT
 go_loopw [6] (fun i wr=>∃k:Nat,k<=L.length/\i = .int .i64 k/\Jah L k (L.drop k)=Jah L 0 L/\Below W0.heap.size W0 wr) (fun i _=>L.length-(intOf i).toNat)
 case atStart=>exact⟨0,Nat.zero_le _,rfl,rfl,Below.refl _ _⟩
 case round=>
  obtain⟨k,hk,rfl,aa,ab⟩:=hrel;have hc:=Jg ab;have eh:=Jf ab;have bu:=ab.size;have fF:w.heap.size<wr.heap.size:=Ua;have fa:w.heap.size+1<wr.heap.size:=Ua
  by_cases am:k<L.length
  ·have qx:=fun s W (h:Below W0.heap.size W0 W)=>Xa L A cap s W (bE.later h);obtain⟨x,hx,-,hd⟩:=Kl am;obtain⟨b,off,rfl,aH,⟨d0,d1,d2,d3⟩⟩:=(bE.later ab).get hx;rw [hd,Jah] at aa;obtain⟨iv,ji,je⟩:=Jek hx;have ap:=qx x.name;rw [<-je] at aa;clear hd hx je qx
   by_cases dj:Jp L x.name≠(k:Int)
   ·rw [if_pos dj] at aa;have hv:J7 p=(2,(k:Int),18):=G0;have jK:decide (Jp L x.name<(k:Int))=true:=Uj;clear aa dj;have HV:=Lib.hid hv;clear hv
    go_wp2_with (first|(go_at_call 49;refine(ap _ Jb).mono ?_;rintro r wd ⟨rfl,ct⟩;have jK:=Jg ct;have jS:=Jf ct;have ir:=ct.size;have ly:w.heap.size<wd.heap.size:=Ua;have hyd':w.heap.size+1<wd.heap.size:=Ua))
    refine bodyPost_ret (v:= .agg #[.int .i64 (2),.int .i64 ((k:Int)),.int .i64 (18)]) Vz rfl ⟨Vp,?_⟩;exact Km
   ·rw [if_neg dj] at aa;have HR:=Lib.hid aa;clear aa;have jK:decide (Jp L x.name<(k:Int))=false:=Uj;clear dj
    go_wp2_with (first|(go_at_call 49;refine(ap _ Jb).mono ?_;rintro r wd ⟨rfl,ct⟩;have ir:=ct.size))
    exact Uc5
  obtain rfl:k=L.length:=Ua;rw [List.drop_length,Jah] at aa;have fC:J7 p=Jkn L p.ins.length (Zy L p.ins.length 0 (fun _=>none) p.eqs):=by rw [jQ.out,<-aa,Jhl,HL.out]
  have ku:=Lib.hid fC;clear fC aa;clear hc eh
  go_wp2_with fail
  go_loopw [7] (fun i wr=>∃(k:Nat) (d:ByteArray->Option Int),k<=p.eqs.length/\i = .int .i64 k/\Hid (Jfa d (p.eqs.take k))/\Zy L p.ins.length k d (p.eqs.drop k)=Zy L p.ins.length 0 (fun _=>none) p.eqs/\Below W0.heap.size W0 wr) (fun i _=>p.eqs.length-(intOf i).toNat)
  case atStart=>exact⟨0,_,Nat.zero_le _,rfl,Lib.hid Jtg,rfl,ab⟩
  case round=>
   obtain⟨k,d,hk,rfl,HD,aa,ab⟩:=hrel;have hc:=Jg ab;have eh:=Jf ab;have bu:=ab.size;have fF:w.heap.size<wr.heap.size:=Ua;have fa:w.heap.size+1<wr.heap.size:=Ua
   by_cases am:k<p.eqs.length
   ·have hx:p.eqs[k]?=some p.eqs[k]:=List.getElem?_eq_getElem am;have hd:p.eqs.drop k=p.eqs[k] :: p.eqs.drop (k+1):=List.drop_eq_getElem_cons am;have aP:p.eqs.take (k+1)=p.eqs.take k ++ [p.eqs[k]]:=U6;generalize p.eqs[k]=q at hx hd aP;have ou:=fun W h=>hreq.out k q hx W h;rw [Jwe Ua HD.out q] at ou;have HD2:Hid (Jfa (upd d q.name ((d q.name).getD 0+1)) (p.eqs.take (k+1))):=Lib.hid (by rw [aP];exact Jqq HD.out q);rw [hd,Zy] at aa;clear hd hx aP
    cases dj:(eqE L p.ins.length d q != 0)
    case true=>
     rw [if_pos G7] at aa;have fC:J7 p=(3,(k:Int),eqE L p.ins.length d q):=Fk;clear aa;have HV:=Lib.hid fC;clear fC
     go_wp2_with (first|(go_at_call 118;refine(ou _ Jb).mono ?_;rintro r wd ⟨rfl,ct⟩;have jK:=Jg ct;have jS:=Jf ct;have ir:=ct.size;have ly:w.heap.size<wd.heap.size:=Ua;have hyd':w.heap.size+1<wd.heap.size:=Ua))
     refine bodyPost_ret (v:= .agg #[.int .i64 (3),.int .i64 ((k:Int)),.int .i64 ((eqE L p.ins.length d q))]) Vz rfl ⟨Vp,?_⟩;exact Km
    rw [if_neg G7] at aa;have HR:=Lib.hid aa;clear aa
    go_wp2_with (first|(go_at_call 118;refine(ou _ Jb).mono ?_;rintro r wd ⟨rfl,ct⟩;have jK:=Jg ct;have jS:=Jf ct;have ir:=ct.size;have ly:w.heap.size<wd.heap.size:=Ua;have hyd':w.heap.size+1<wd.heap.size:=Ua))
    go_roundw
    case rel=>exact⟨k+1,_,Ua,Up,HD2,HR.out,Jb⟩
    case measure=>simp [intOf];omega
   obtain rfl:k=p.eqs.length:=Ua;rw [List.drop_length,Zy] at aa;have fC:J7 p=Jg3 d L p.ins.length:=Fk;have bL:=Lib.hid fC;clear fC aa ku;have HD1:Hid (Jfa d p.eqs):=Lib.hid (by have:=HD.out;rwa [List.take_length] at this);have kC:=HIL.out;clear HD
   go_wp2_with fail
   clear hc eh
   go_loopw [9] (fun i wr=>∃k:Nat,p.ins.length<=k/\k<=L.length/\i = .int .i64 k/\Jam d k (L.drop k)=Jam d p.ins.length (L.drop p.ins.length)/\Below W0.heap.size W0 wr) (fun i _=>L.length-(intOf i).toNat)
   case atStart=>exact⟨p.ins.length,Nat.le_refl _,kC,rfl,rfl,Jb⟩
   case round=>
    obtain⟨k,fR,hk,rfl,aa,ab⟩:=hrel;have hc:=Jg ab;have eh:=Jf ab;have bu:=ab.size;have hr6:w.heap.size<wr.heap.size:=Ua;have hr7:w.heap.size+1<wr.heap.size:=Ua
    by_cases am:k<L.length
    ·have hx:L[k]?=some L[k]:=List.getElem?_eq_getElem am;have hd:L.drop k=L[k] :: L.drop (k+1):=List.drop_eq_getElem_cons am;generalize L[k]=x at hx hd;obtain⟨bv,ov,rfl,dB,⟨d0,d1,d2,d3⟩⟩:=bE.get hx;have mE:bv<wr.heap.size:=Ua;rw [hd,Jam] at aa;have hcnt:=HD1.out x.name;have HREM:=Lib.hid aa;clear aa;have HCNT:=Lib.hid hcnt;clear hcnt;clear hd hx d1 d2 d3
     go_wp2_with fail
     go_loopw [10,11] (fun o i wr=>∃(j:Nat) (bb:Bool),j<=p.eqs.length/\i = .int .i64 j/\o = .bool bb/\(bb || Y3 (p.eqs.drop j) x.name)=Y3 p.eqs x.name/\Below W0.heap.size W0 wr) (fun _ i _=>p.eqs.length-(intOf i).toNat)
     case atStart=>exact⟨0,false,Nat.zero_le _,rfl,rfl,rfl,Jb⟩
     case round=>
      obtain⟨j,bb,hj,rfl,rfl,aa,ab⟩:=hrel;have hc:=Jg ab;have eh:=Jf ab;have bu:=ab.size;have hr8:w.heap.size<wr.heap.size:=Ua;have hr9:w.heap.size+1<wr.heap.size:=Ua;have hr10:bv<wr.heap.size:=Ua
      by_cases nK:j<p.eqs.length
      ·have qy:p.eqs[j]?=some p.eqs[j]:=List.getElem?_eq_getElem nK;have hdj:p.eqs.drop j=p.eqs[j] :: p.eqs.drop (j+1):=List.drop_eq_getElem_cons nK;generalize p.eqs[j]=q at qy hdj;obtain⟨b,off,E1,k1,E2,k2,rfl,aH,⟨g0,g1,g2,g3,g4,g5,g6,g7,g8,g9,s1,s2⟩⟩:=oc.get qy;have hbbr:b<wr.heap.size:=Ua;rw [hdj,Jjt] at aa;clear hdj qy g1 g2 g3 g4 g5 g6 g7 g8 g9 s1 s2
       cases bb
       ·cases dj:(q.name.toList == x.name.toList)
        ·rw [dj,Bool.false_or] at aa;have HR:=Lib.hid aa;clear aa
         go_wp2_with fail
         go_quiet (fail)
         go_wp2_with fail
         go_roundw
         case rel=>exact⟨j+1,_,Ua,Up,rfl,HR.out,Jb⟩
         case measure=>simp [intOf];omega
        ·rw [dj,Bool.true_or,Bool.false_or] at aa;exact Ubh
       ·rw [Bool.true_or] at aa;exact Ubh
      obtain rfl:j=p.eqs.length:=Ua;rw [List.drop_length] at aa
      cases bb
      ·have hz:(d x.name).getD 0=0:=HCNT.out.2 aa.symm;have jd:=HREM.out;rw [if_pos hz] at jd;have hv:J7 p=(2,(k:Int),8):=by rw [bL.out,Jg3,<-jd]
       clear aa jd hz;have HV:=Lib.hid hv;clear hv
       go_wp2_with fail
       refine bodyPost_ret (v:= .agg #[.int .i64 (2),.int .i64 ((k:Int)),.int .i64 (8)]) Vz rfl ⟨Vp,?_⟩;exact Km
      ·have hz:0<(d x.name).getD 0:=HCNT.out.1 (by rw [<-aa];rfl);have jd:=HREM.out;rw [if_neg Ua] at jd;have HR:=Lib.hid jd;clear jd aa hz
       go_wp2_with fail
       go_roundw
       case rel=>exact⟨k+1,Ua,Ua,Up,HR.out,Jb⟩
       case measure=>simp [intOf];omega
    obtain rfl:k=L.length:=Ua;rw [List.drop_length,Jam] at aa;have hv:J7 p=(0,0,0):=by rw [bL.out,Jg3,<-aa]
    clear aa;have HV:=Lib.hid hv;clear hv
    go_wp2_with fail
    refine bodyPost_ret (v:= .agg #[.int .i64 (0),.int .i64 (0),.int .i64 (0)]) Vz rfl ⟨Vp,?_⟩;exact Km
theorem Jk8 (p:Pr) (a:PrA) (w:World) (hp:Kr w p a) (aw:Q4 p) (n1:p.ins.length<=1000000) (n2:p.outs.length<=1000000) (n3:p.locals.length<=1000000) (n4:p.eqs.length<=1000000) :
  Calls Tryz.prog 84 #[prV p a] w fun r w'=>r = .returned (fV (J7 p))/\Below w.heap.size w w':=by
 by_cases he:K5 p=0
 ·by_cases hb:8<p.ins.length\/8<p.outs.length\/24<(Je p).length
  ·exact Jr7 p a w hp aw n1 n2 n3 n4 he hb
  ·exact Jom p a w hp aw n1 n2 n3 n4 he Ua Ua Ua
 ·exact Jq3 p a w hp aw n1 n2 n3 n4 he
theorem Jkz (p:Pr) (a:PrA) (w:World) (hp:Kr w p a) (aw:Q4 p) (n1:p.ins.length<=1000000) (n2:p.outs.length<=1000000) (n3:p.locals.length<=1000000) (n4:p.eqs.length<=1000000) (aN:J7 p≠(0,0,0)) :
  Calls Tryz.prog 53 #[prV p a] w fun r w'=>r = .returned (fV (J7 p))/\Below w.heap.size w w':=by
 have aV:=fun W h=>Jk8 p a W (hp.later h) aw n1 n2 n3 n4;have he:((J7 p).2.2 != 0)=true:=by simpa using Jrg aN
 clear aN aw;obtain⟨A1,c1,A2,c2,A3,c3,A4,c4⟩:=a;unfold prV fV at *;dsimp only at *;generalize J7 p=f at *;obtain⟨f0,f1,f2⟩:=f;dsimp only at *
 go_enter Tryz.func53,Tryz.ntmps53
 go_wp2_with (first|(go_at_call 84;refine(aV _ Jb).mono ?_;rintro r wa ⟨rfl,aA⟩;have aW:=Jg aA;have bS:=Jf aA;have cN:w.heap.size+2<=wa.heap.size:=Ut;have dG:w.heap.size<wa.heap.size:=Ua;have aX:w.heap.size+1<wa.heap.size:=Ua))
 refine bodyPost_ret (v:= .agg #[.int .i64 f0,.int .i64 f1,.int .i64 f2]) Lr rfl ⟨rfl,?_⟩;exact Km
theorem Jku (p:Pr) (a:PrA) (w:World) (hp:Kr w p a) (aw:Q4 p) (n1:p.ins.length<=1000000) (n2:p.outs.length<=1000000) (n3:p.locals.length<=1000000) (n4:p.eqs.length<=1000000) (aN:J7 p=(0,0,0)) :
  Calls Tryz.prog 53 #[prV p a] w fun r w'=>r = .returned (fV (Qg p))/\Below w.heap.size w w':=by
 have dD:Qg p=Jgx p (Yy (Je p) 0 (Je p)):=by unfold Qg;rw [if_neg (by rw [aN];simp)]
 obtain⟨lG,hL24⟩:=Jlm aN;have dn:=(X4 (Z5 lG)).2.2.2.2;have ry:=Lib.hid (Jf5 aN);have aV:=fun W h=>Jk8 p a W (hp.later h) aw n1 n2 n3 n4;have aJ:=fun W h=>Z3 p a W (hp.later h) n1 n2 n3;rw [aN] at aV;clear aN lG;have jQ:=Lib.hid dD;clear dD;have jR:=Lib.hid dn;clear dn;have kc:=Lib.hid aw.eqs;clear aw;have bT:=hp.eqs;have oM:=hp.eqs.len;obtain⟨A1,c1,A2,c2,A3,c3,A4,c4⟩:=a;unfold maxLen at oM;unfold prV fV at *;dsimp only at *;obtain⟨tC,tD⟩:=oM;have cM:Jgx p none=Ji8 (Y7 (Je p) 0 p.eqs):=rfl;have tE:=Lib.hid cM;clear cM;generalize hL:Je p=L at *;clear hL hp
 go_enter Tryz.func53,Tryz.ntmps53
 go_wp2_with (first|(go_at_call 84;refine(aV _ Jb).mono ?_;rintro r wa ⟨rfl,aA⟩;have aW:=Jg aA;have bS:=Jf aA;have cN:w.heap.size+2<=wa.heap.size:=Ut;have dG:w.heap.size<wa.heap.size:=Ua;have aX:w.heap.size+1<wa.heap.size:=Ua)|(go_at_call 26;refine(aJ _ Jb).mono ?_;rintro r wb ⟨⟨A,cap,rfl,ae⟩,aH⟩;have el:=Jg aH;have mJ:=Jf aH;have dH:=aH.size;(try simp at dH);have cA:w.heap.size<wb.heap.size:=Ua;have ep:w.heap.size+1<wb.heap.size:=Ua;have cR:=Ju.of_own ae))
 refine Jo fun W0 ag=>?_;have ax:Below w.heap.size w W0:=Uo;have bD:w.heap.size<W0.heap.size:=Lk;have af:w.heap.size+1<W0.heap.size:=Lk;have x4:W0.cell? ⟨w.heap.size,4,none⟩=some (.slice A4 p.eqs.length c4):=Uc;have f0:W0.cell? ⟨w.heap.size+1,0,none⟩=some (.int .i64 0):=Uc;have f1:W0.cell? ⟨w.heap.size+1,1,none⟩=some (.int .i64 0):=Uc;have f2:W0.cell? ⟨w.heap.size+1,2,none⟩=some (.int .i64 0):=Uc;have z0:W0.frozen? ⟨w.heap.size+1,0,none⟩=false:=Uc;have z1:W0.frozen? ⟨w.heap.size+1,1,none⟩=false:=Uc;have z2:W0.frozen? ⟨w.heap.size+1,2,none⟩=false:=Uc;have bE:Ju W0 L A cap:=by rw [ag];exact cR
 have cY:=bE.len;unfold maxLen at cY;obtain⟨fH,fI⟩:=cY;clear ag;have oc:=bT.later ax;clear aV aJ ae cR aW el bS mJ bT
 go_loopw [5] (fun i wr=>∃k:Nat,k<=L.length/\i = .int .i64 k/\Yy L k (L.drop k)=Yy L 0 L/\Below W0.heap.size W0 wr) (fun i _=>L.length-(intOf i).toNat)
 case atStart=>exact⟨0,Nat.zero_le _,rfl,rfl,Below.refl _ _⟩
 case round=>
  obtain⟨k,hk,rfl,aa,ab⟩:=hrel;have hc:=Jg ab;have eh:=Jf ab;have bu:=ab.size;have fF:w.heap.size<wr.heap.size:=Ua;have fa:w.heap.size+1<wr.heap.size:=Ua
  by_cases am:k<L.length
  ·have hx:L[k]?=some L[k]:=List.getElem?_eq_getElem am;have hd:L.drop k=L[k] :: L.drop (k+1):=List.drop_eq_getElem_cons am;generalize L[k]=x at hx hd;obtain⟨b,off,hA,aH,⟨d0,d1,d2,d3⟩⟩:=bE.get hx;subst hA;have rq:b<wr.heap.size:=Ua;rw [hd,Yy] at aa;have aK:=fun(v:Va) W=>Jpp v W;have fk:=aK x;have ap:=fun W h=>Xa L (some ⟨b,off,none⟩) cap x.cn W ((bE.later ab).later h);have dy:Yc L x=Yc L x:=rfl;rw (occs:= .pos [2]) [Yc] at dy;unfold vaV at fk;clear hd hx
   cases hq:K9 x.ck x.cn 0 ⟨#[]⟩
   case true=>
    rw [hq,if_pos rfl] at dy;rw [dy,if_neg Ul] at aa;rw [hq] at fk;have HR:=Lib.hid aa;clear aa dy hq ap aK;exact Bo
   rw [hq,if_neg Ul] at dy;rw [hq] at fk;clear hq
   rcases Y5 L x.cn with ⟨cL,eB⟩|⟨j,c,cL,qy,eB⟩
   ·rw [eB] at dy;rw [cL] at ap;dsimp only at dy;rw [dy,if_pos Ux] at aa;have hv:Qg p=(2,(k:Int),19):=G0;clear aa dy cL eB aK;have HV:=Lib.hid hv;clear hv
    go_wp2_with (first|(go_at_call_of 85 (Value.string x.name);refine(fk _).mono ?_;rintro r w1 ⟨rfl,ac⟩;have ak:=Jg ac;have db:=Jf ac;have af:=ac.size;have bV:w.heap.size<w1.heap.size:=Ua;have gq:w.heap.size+1<w1.heap.size:=Ua;have ow:b<w1.heap.size:=Ua)|(go_at_call 49;refine(ap _ Jb).mono ?_;rintro r w2 ⟨rfl,aq⟩;have dm:=Jg aq;have gO:=Jf aq;have br:=aq.size;have ns:w.heap.size<w2.heap.size:=Ua;have nt:w.heap.size+1<w2.heap.size:=Ua;have lH:b<w2.heap.size:=Ua)|(go_at_call 85;refine(bU _).mono ?_;rintro r w3 ⟨rfl,aM⟩;have kE:=Jg aM;have tx:=Jf aM;have fe:=aM.size;have xd:w.heap.size<w3.heap.size:=Ua;have hy8:w.heap.size+1<w3.heap.size:=Ua))
    refine bodyPost_ret (v:= .agg #[.int .i64 (2),.int .i64 ((k:Int)),.int .i64 (19)]) Lr rfl ⟨Vp,?_⟩;exact Km
   rw [eB] at dy;rw [cL] at ap;dsimp only at dy;have mX:j<L.length:=(List.getElem?_eq_some_iff.1 qy).1;have yL:(j:Int)<(L.length:Int):=Ua;have tjj:¬((j:Int)<0):=Ua;obtain⟨b',off',lL,_,⟨y0,y1,y2,y3⟩⟩:=bE.get qy;have tM:b=b'/\off=off':=by simpa using lL
   obtain⟨rfl,rfl⟩:=tM;have bU:=aK c;unfold vaV at bU;clear qy lL cL eB aK
   by_cases ht:c.type≠2
   ·rw [if_pos ht] at dy;rw [dy,if_pos Ux] at aa;have hv:Qg p=(2,(k:Int),20):=G0;have t2:(c.type != 2)=true:=by simpa using ht
    clear aa dy ht bU;have HV:=Lib.hid hv;clear hv
    go_wp2_with (first|(go_at_call_of 85 (Value.string x.name);refine(fk _).mono ?_;rintro r w1 ⟨rfl,ac⟩;have ak:=Jg ac;have db:=Jf ac;have af:=ac.size;have bV:w.heap.size<w1.heap.size:=Ua;have gq:w.heap.size+1<w1.heap.size:=Ua;have ow:b<w1.heap.size:=Ua)|(go_at_call 49;refine(ap _ Jb).mono ?_;rintro r w2 ⟨rfl,aq⟩;have dm:=Jg aq;have gO:=Jf aq;have br:=aq.size;have ns:w.heap.size<w2.heap.size:=Ua;have nt:w.heap.size+1<w2.heap.size:=Ua;have lH:b<w2.heap.size:=Ua)|(go_at_call 85;refine(bU _).mono ?_;rintro r w3 ⟨rfl,aM⟩;have kE:=Jg aM;have tx:=Jf aM;have fe:=aM.size;have xd:w.heap.size<w3.heap.size:=Ua;have hy8:w.heap.size+1<w3.heap.size:=Ua))
    refine bodyPost_ret (v:= .agg #[.int .i64 (2),.int .i64 ((k:Int)),.int .i64 (20)]) Lr rfl ⟨Vp,?_⟩;exact Km
   rw [if_neg ht] at dy;have t2:(c.type != 2)=false:=by simpa using ht
   clear ht
   cases je:K9 c.ck c.cn 0 ⟨#[]⟩
   ·rw [je,if_neg Ul] at dy;rw [je] at bU;rw [dy,if_pos Ux] at aa;have hv:Qg p=(2,(k:Int),21):=G0;clear aa dy je;have HV:=Lib.hid hv;clear hv
    go_wp2_with (first|(go_at_call_of 85 (Value.string x.name);refine(fk _).mono ?_;rintro r w1 ⟨rfl,ac⟩;have ak:=Jg ac;have db:=Jf ac;have af:=ac.size;have bV:w.heap.size<w1.heap.size:=Ua;have gq:w.heap.size+1<w1.heap.size:=Ua;have ow:b<w1.heap.size:=Ua)|(go_at_call 49;refine(ap _ Jb).mono ?_;rintro r w2 ⟨rfl,aq⟩;have dm:=Jg aq;have gO:=Jf aq;have br:=aq.size;have ns:w.heap.size<w2.heap.size:=Ua;have nt:w.heap.size+1<w2.heap.size:=Ua;have lH:b<w2.heap.size:=Ua)|(go_at_call 85;refine(bU _).mono ?_;rintro r w3 ⟨rfl,aM⟩;have kE:=Jg aM;have tx:=Jf aM;have fe:=aM.size;have xd:w.heap.size<w3.heap.size:=Ua;have hy8:w.heap.size+1<w3.heap.size:=Ua))
    refine bodyPost_ret (v:= .agg #[.int .i64 (2),.int .i64 ((k:Int)),.int .i64 (21)]) Lr rfl ⟨Vp,?_⟩;exact Km
   ·rw [je,if_pos rfl] at dy;rw [je] at bU;rw [dy,if_neg Ul] at aa;have HR:=Lib.hid aa;clear aa dy je;exact Bo
  obtain rfl:k=L.length:=Ua;rw [List.drop_length,Yy] at aa;have fC:Qg p=Ji8 (Y7 L 0 p.eqs):=by rw [jQ.out,<-aa];exact tE.out
  have ku:=Lib.hid fC;clear fC aa
  go_wp2_with fail
  clear hc eh bu fF fa
  go_loopw [7] (fun i wr=>∃k:Nat,k<=p.eqs.length/\i = .int .i64 k/\Y7 L k (p.eqs.drop k)=Y7 L 0 p.eqs/\Below W0.heap.size W0 wr) (fun i _=>p.eqs.length-(intOf i).toNat)
  case atStart=>exact⟨0,Nat.zero_le _,rfl,rfl,ab⟩
  case round=>
   clear ab;obtain⟨k,hk,rfl,aa,ab⟩:=hrel;have hc:=Jg ab;have eh:=Jf ab;have bu:=ab.size;have fF:w.heap.size<wr.heap.size:=Ua;have fa:w.heap.size+1<wr.heap.size:=Ua
   by_cases am:k<p.eqs.length
   ·have hx:p.eqs[k]?=some p.eqs[k]:=List.getElem?_eq_getElem am;have hd:p.eqs.drop k=p.eqs[k] :: p.eqs.drop (k+1):=List.drop_eq_getElem_cons am;generalize p.eqs[k]=q at hx hd;obtain⟨b,off,E1,k1,E2,k2,rfl,aH,⟨g0,g1,g2,g3,g4,g5,g6,g7,g8,g9,s1,s2⟩⟩:=oc.get hx;have rq:b<wr.heap.size:=Ua;rw [hd,Y7] at aa;have aj:=List.mem_of_getElem? hx;have eV:q.e.right=0:=(Jm3 (jR.out q aj)).1;obtain⟨j0,wP⟩:=ry.out q aj
    rcases Y5 L q.name with ⟨cL,eB⟩|⟨j,v,cL,qy,eB⟩
    ·exfalso
     unfold Jp at cL;rw [wP] at cL;obtain⟨kk,_,mI,_⟩:=Zi wP;simp only [Option.getD_some] at cL;exact Ua
    have ap:=fun W h=>Xa L A cap q.name W ((bE.later ab).later h);rw [cL] at ap;have mX:j<L.length:=(List.getElem?_eq_some_iff.1 qy).1;have yL:(j:Int)<(L.length:Int):=Ua;have tjj:¬((j:Int)<0):=Ua;have ix:=fun W h=>Jpl q.e (kc.out q aj).2.2.2 E2 k2 v.ck v.cn L A cap W ((s2.later ab).later h) ((bE.later ab).later h);have bO:Jcy L q.name=(v.ck,v.cn):=by unfold Jcy;rw [eB]
    have et:Jhk L q.e (v.ck,v.cn)=q.e.clk L (v.ck,v.cn):=by unfold Jhk;rw [if_neg Ua]
    rw [bO] at aa;rw [et] at ix;obtain⟨bv,ov,lL,dB,⟨y0,y1,y2,y3⟩⟩:=bE.get qy;subst lL;have mE:bv<wr.heap.size:=Ua;unfold exV at ix;clear qy cL eB bO et wP eV aj hd hx y0 y1;generalize q.e.clk L (v.ck,v.cn)=de at *
    by_cases eD:de≠0
    ·rw [if_pos eD] at aa;have hv:Qg p=(3,(k:Int),de):=Fk;have t1:(de != 0)=true:=G8;clear aa eD;have HV:=Lib.hid hv;clear hv
     go_wp2_with (first|(go_at_call 49;refine(ap _ Jb).mono ?_;rintro r w2 ⟨rfl,aq⟩;have dm:=Jg aq;have gO:=Jf aq;have br:=aq.size;have ns:w.heap.size<w2.heap.size:=Ua;have nt:w.heap.size+1<w2.heap.size:=Ua;have lH:b<w2.heap.size:=Ua;have xd:bv<w2.heap.size:=Ua))
     refine Jx Ug Ug (fun bj=>?_)
     repeat (quiet_step ((first|(go_at_call 86;exact Calls.regrown_of (ix _ Jb)))))
     refine wpQuiet_nil ?_;intro wq au;replace au:=qbo au;obtain⟨au,dA,bh⟩:=au;clear bj
     (try simp at bh)
     have ri:=Jf au
     go_wp2_with fail
     refine bodyPost_ret (v:= .agg #[.int .i64 (3),.int .i64 ((k:Int)),.int .i64 (de)]) Lr rfl ⟨Vp,?_⟩;exact Km
    ·rw [if_neg eD] at aa;have t1:(de != 0)=false:=G8;have HR:=Lib.hid aa;clear aa eD
     go_wp2_with (first|(go_at_call 49;refine(ap _ Jb).mono ?_;rintro r w2 ⟨rfl,aq⟩;have dm:=Jg aq;have gO:=Jf aq;have br:=aq.size;have ns:w.heap.size<w2.heap.size:=Ua;have nt:w.heap.size+1<w2.heap.size:=Ua;have lH:b<w2.heap.size:=Ua;have xd:bv<w2.heap.size:=Ua))
     refine Jx Ug Ug (fun bj=>?_)
     repeat (quiet_step ((first|(go_at_call 86;exact Calls.regrown_of (ix _ Jb)))))
     refine wpQuiet_nil ?_;intro wq au;replace au:=qbo au;obtain⟨au,dA,bh⟩:=au;clear bj
     (try simp at bh)
     go_wp2_with fail
     exact Uc5
   obtain rfl:k=p.eqs.length:=Ua;rw [List.drop_length,Y7] at aa;have hv:Qg p=(0,0,0):=Fk;clear aa;have HV:=Lib.hid hv;clear hv
   go_wp2_with fail
   refine bodyPost_ret (v:= .agg #[.int .i64 (0),.int .i64 (0),.int .i64 (0)]) Lr rfl ⟨Vp,?_⟩;exact Km
theorem Jhn (p:Pr) (a:PrA) (w:World) (hp:Kr w p a) (aw:Q4 p) (n1:p.ins.length<=1000000) (n2:p.outs.length<=1000000) (n3:p.locals.length<=1000000) (n4:p.eqs.length<=1000000) :
  Calls Tryz.prog 53 #[prV p a] w fun r w'=>r = .returned (fV (Qg p))/\Below w.heap.size w w':=by
 by_cases aN:J7 p=(0,0,0)
 ·exact Jku p a w hp aw n1 n2 n3 n4 aN
 ·have hv:Qg p=J7 p:=by unfold Qg;rw [if_pos aN]
  rw [hv];exact Jkz p a w hp aw n1 n2 n3 n4 aN
end Go.Proofs.YtknfcamdfdfoeaaGreatDoor
