/- Lemmas. -/
import Derived.Test.YtknfcamdfdfoeaaGreatDoorMac
import Derived.Test.YtknfcamdfdfoeaaGreatDoorZ16
import Derived.Test.YtknfcamdfdfoeaaGreatDoorZ04
set_option linter.unusedVariables false
set_option linter.unusedSimpArgs false
set_option maxRecDepth 100000
set_option maxHeartbeats 64000000
namespace Go.Proofs.YtknfcamdfdfoeaaGreatDoor
open Go.RowKit Go.Sort
theorem Jq7 {v:Value} {B s z:Nat} (am:∀k,v.ownBlock=some k->B<=k/\k<s) (hz:z<B):v.ownBlock=none\/v.ownBlock≠some z:=by
 cases hv:v.ownBlock with
 | none=>exact .inl rfl
 | some b=>exact .inr fun e=>by have:=(am b hv).1;injection e with e;omega
theorem Jap.nameCell {w:World} {l:List Qe} {b off cap k:Nat} {q:Qe} (h:Jap w l (some ⟨b,off,none⟩) cap) (hk:l[k]?=some q):w.cell? ⟨b,off+k * 10,none⟩=some (.string q.name):=by
 obtain⟨b',o',_,_,_,_,hA,_,hc⟩:=h.get hk;injection hA with e;injection e with e1 e2;subst e1 e2;exact hc.g0
theorem Jdu {B:Nat} {w w':World} (h:Below B w w'):∀b o:Nat,b<B->w'.cell? ⟨b,o,none⟩=w.cell? ⟨b,o,none⟩:=fun b o hb=>h.cell (p:=⟨b,o,none⟩) hb
theorem Jfi {B:Nat} {w w':World} (h:Below B w w'):∀b o:Nat,b<B->w'.frozen? ⟨b,o,none⟩=w.frozen? ⟨b,o,none⟩:=fun b o hb=>h.frozen (p:=⟨b,o,none⟩) hb
theorem Jql (p:Pr) (a:PrA) (w:World) (hg:Ql w) (hp:Kr w p a) (aw:Q4 p) (n1:p.ins.length<=1000000) (n2:p.outs.length<=1000000) (n3:p.locals.length<=1000000) (n4:p.eqs.length<=1000000) (aN:Qg p=(0,0,0)) :
  Calls Tryz.prog 24 #[prV p a] w fun r w'=>(∃v,r = .returned (.tuple #[v,fV (Jdx p).2])/\w'.ownsRow w.heap.size 3 1 v (Jdx p).1.length ((Jdx p).1.map (.int .i64)))/\Below w.heap.size w w':=by
 have hO:Jdx p=Jj9 (Z1 (Je p)) p.eqs (Yt 0 (fun _=>none) 0 p.eqs).2 (Yt 0 (fun _=>none) 0 p.eqs).1 (Yt 0 (fun _=>none) 0 p.eqs).2 []:=rfl;generalize Jdx p=O at *;obtain⟨FW,hFW⟩:∃F,F=Yt 0 (fun _=>none) 0 p.eqs:=⟨_,rfl⟩;rw [<-hFW] at hO;have jn:=(Xp (Xk aN).1).1
 have dn:∀q∈p.eqs,q.name.size<=maxLen/\q.e.OK/\q.e.size<=1000000:=fun q hq=>by
  obtain⟨h1,_,h2,_⟩:=Jaq ((X4 jn).2.2.2.2 q hq);exact⟨U2,(aw.eqs q hq).2.2.2,Ua⟩
 have nb:∀v∈Je p,v.name.size<=maxLen:=fun v hv=>by have:=(Jep jn v hv).1;unfold maxLen;omega
 have lg:∀q∈p.eqs,∀s∈Z1 (Je p) q,s.size<=maxLen:=fun q hq s hs=>by
  obtain⟨v,hv,rfl⟩:=Jjh aN hq hs;exact nb v hv
 have aV:=fun W h=>Jhx p a W (hg.later h) (hp.later h) n1 n2 n3 n4;have qm:=Nf (fun W (h:Below w.heap.size w W)=>Jsz p a W (hp.later h) n1 n2 n3 n4 nb dn);rw [aN] at aV;clear aN jn aw hg;generalize Je p=L at *;obtain⟨nd,nq⟩:∃nd,nd=Z1 L:=⟨_,rfl⟩;have hnrow:∀g k W xs,Jde L p.eqs g k W xs->∀(j:Nat) (q:Qe),j<k->p.eqs[j]?=some q->∃A cap,xs[j]?=some (.slice A (nd q).length cap)/\Off (g+1) none W (fun V=>Qf V (nd q) A cap):=fun g k W xs h=>by rw [nq];exact h.1
 rw [<-nq] at hO lg;have HO:=Nf hO;have HFW:=Nf hFW;have jR:=Nf dn;have HNDS:=Nf lg;clear hO hFW dn lg nb nq;have dp:∀w,(Op.equalIn 10000 34 (.agg #[.int .i64 0,.int .i64 0,.int .i64 0]) (.agg #[.int .i64 0,.int .i64 0,.int .i64 0])).run Tryz.prog w = .ok true w:=fun w=>So;have fM:Tryz.prog.eqGuardType Tryz.prog.depth 34=false:=Ug;have gI:=@run_makeMap Tryz.prog;have bT:=hp.eqs;have cG:=hp.eqs.len;obtain⟨A1,c1,A2,c2,A3,c3,A4,c4⟩:=a;unfold maxLen at cG;unfold prV fV at *;dsimp only at *;obtain⟨fT,fU⟩:=cG;clear hp
 go_enter Tryz.func24,Tryz.ntmps24
 go_wp2_with (first|(go_at_call 45;refine(aV _ Jb).mono ?_;rintro r wa ⟨rfl,aA⟩;have aW:=Jg aA;have bS:=Jf aA;have cN:w.heap.size+2<=wa.heap.size:=Ut;have dG:=lt0 w wa;have aX:=ltA w 1 wa))
 refine Jo fun W0 ag=>?_;have ax:=Nd w W0 Vl;have hmb1:w.heap.size+1<(wa.heap.size+1):=Ua;have hmb2:(wa.heap.size+1)<W0.heap.size:=La
 have eU:Jaj Tryz.prog 9 3 W0 (wa.heap.size+1) 0 (fun _=>none) 0:=by
  rw [ag];have h1:=Jaj.made (P:=Tryz.prog) (k:=9) (e:=3) (wa.alloc (.cells #[.int .i64 0,.int .i64 0,.int .i64 0] 34));exact Lw
 have x0:=Nb W0 w.heap.size 0 (.string p.name) Uc;have x1:=Nb W0 w.heap.size 1 (.slice A1 p.ins.length c1) Uc;have x2:=Nb W0 w.heap.size 2 (.slice A2 p.outs.length c2) Uc;have x3:=Nb W0 w.heap.size 3 (.slice A3 p.locals.length c3) Uc;have x4:=Nb W0 w.heap.size 4 (.slice A4 p.eqs.length c4) Uc;have f0:=Na W0 (w.heap.size+1) 0 0 Uc;have f1:=Na W0 (w.heap.size+1) 1 0 Uc;have f2:=Na W0 (w.heap.size+1) 2 0 Uc;have z0:=Nc W0 (w.heap.size+1) 0 Uc;have z1:=Nc W0 (w.heap.size+1) 1 Uc;have z2:=Nc W0 (w.heap.size+1) 2 Uc;have hmb0:w.heap.size<(wa.heap.size+1):=Ua;clear ag aW bS aA cN dG aX aV gI dp fM
 go_loopw [26] (fun i wr=>∃(k n c:Nat) (f:ByteArray->Option Int),k<=p.eqs.length/\i = .int .i64 k/\n<=k/\c<=k/\Hid (Jaj Tryz.prog 9 3 wr (wa.heap.size+1) n f c)/\Hid (Yt k f c (p.eqs.drop k)=FW)/\Hid (W0.grownBy wr (some (wa.heap.size+1)))) (fun i _=>p.eqs.length-(intOf i).toNat)
 case atStart=>exact⟨0,0,0,_,Np,rfl,Ns _,Ns _,Nf eU,Nf (by rw [List.drop_zero];exact HFW.out.symm),Nf ⟨rfl,rfl,rfl,Ns _,fun _ _ _=>rfl⟩⟩
 case round=>
  obtain⟨k,n,c,f,hk,rfl,hn,hc,hm,nf,bB⟩:=hrel;have eC:=bB.out.size;have dh:=Nd w wr (J2 ax bB.out (fun b hb=>U1) Ua);have iQ:Below (wa.heap.size+1) W0 wr:=J2 (Below.refl (wa.heap.size+1) W0) bB.out (fun b hb=>U1) Ua;have fG:=Jdu iQ;have wZ:=Jfi iQ;have ej:=hm.out;have dW:=hm.out.lt;have qn:=lt0 w wr
  by_cases am:k<p.eqs.length
  ·obtain⟨q,hx,-,hd⟩:=Kl am;obtain⟨b,off,B1,n1,B2,n2,rfl,aH,⟨g0,g1,g2,g3,g4,g5,g6,g7,g8,g9,s1,s2⟩⟩:=(bT.later dh).get hx;have qo:=nf.out;rw [hd,Yt] at qo;have dn:=(jR.out q (Ni hx)).1;clear hd hx nf
   cases ek:(q.delay == 0)
   ·rw [ek,if_neg Ul] at qo;have HW:=Nf qo;clear qo
    go_wp2_with fail
    go_roundw
    case rel=>exact⟨k+1,n,c,f,Ua,Up,Ua,Ua,Nf (ej.keep1 (heap_alloc_old _ _ dW)),HW,Nf (Qn bB.out (World.grownBy_alloc wr _ _))⟩
    case measure=>simp [intOf];omega
   ·rw [ek,if_pos rfl] at qo;have HW:=Nf qo;clear qo
    go_wp2_with (first|(at_mapUpdate;go_loud (refine Jte rfl (.tmp 34) (.tmp 36) (.tmp 37) 116 rfl Tryz.underlying9 Tryz.underlying116 Tryz.underlying3 (wa.heap.size+1) n f c q.name (k:Int) rfl (ej.keep1 (heap_alloc_old _ _ dW)) Ua rfl rfl dn Ua ?_;intro w2 cI aG;have kj:=Nf cI;have kr:=Nf aG;clear cI aG)))
    go_roundw
    case rel=>exact⟨k+1,n+1,_,_,Ua,Up,Ua,by split <;> omega,kj,HW,Nf (Qn bB.out (Qn (World.grownBy_alloc wr _ _) kr.out))⟩
    case measure=>simp [intOf];omega
  ·obtain rfl:k=p.eqs.length:=Ua;have qo:=nf.out;rw [Nn] at qo;have hfw:FW=(f,c):=qo.symm;have ho:=HO.out;rw [hfw] at ho;have sK:=Nf ho.symm;clear nf qo hfw ho HO HFW
   go_wp2_with (first|(go_at_call 46;go_loud (refine(qm.out _ Jb).mono ?_;rintro r wn ⟨⟨g,xs,rfl,rG,ae,vE⟩,dI⟩;have qJ:=Jg dI;have lF:=Jf dI;have qp:=dI.size;have xa:=lt0 w wn;have hyn1:=ltA w 1 wn;have tm:=Nf ae;have HNR:=Nf vE;clear ae vE)))
   have hmn:(wa.heap.size+1)<g:=Ua;refine Jo fun W1 bt=>?_;have hW1n:wn=W1:=by rw [bt]
   subst hW1n;have vF:=Nd w wn (Jn dh dI Ua);have vG:Below (wa.heap.size+1) W0 wn:=iQ.trans (dI.mono Ua);have iw:Hid (Jaj Tryz.prog 9 3 wn (wa.heap.size+1) n f c):=Nf (ej.bel dI);have hglt:g<wn.heap.size:=(tm.out.lt g rfl).2;clear qJ lF fG wZ iQ dh bB hm ej bt qm dI
   go_loopw [9] (fun o wr=>∃(c:Nat) (f:ByteArray->Option Int) (B:Option Addr) (bc:Nat) (out:List Int),out.length+c<=1000000/\o = .slice B out.length bc/\Hid (Jaj Tryz.prog 9 3 wr (wa.heap.size+1) n f c)/\Hid (Jj9 nd p.eqs c f c out=O)/\Hid (wr.ownsRow wn.heap.size 3 1 (.slice B out.length bc) out.length (out.map (.int .i64)))/\Hid (wn.grownBy wr (some (wa.heap.size+1)))) (fun o _=>1000000-Jfh o)
   case atStart=>exact⟨c,f,none,0,[],Uj,rfl,iw,sK,Nf (Nw),Nf ⟨rfl,rfl,rfl,Ns _,fun _ _ _=>rfl⟩⟩
   case round=>
    clear iw sK hc;obtain⟨c,f,B,bc,out,lq,rfl,hm,aa,iX,bB⟩:=hrel;have eC:=bB.out.size;have aC:=Nd w wr (J2 vF bB.out (fun b hb=>U1) Ua);have iQ:Below (wa.heap.size+1) W0 wr:=J2 vG bB.out (fun b hb=>U1) Ua;have fG:=Jdu iQ;have wZ:=Jfi iQ;have wD:=ltA w 1 wr;have tL:=lt0 w wr
    cases c with
    | zero=>
     have hv:O=(out,(0,0,0)):=by rw [<-aa.out];rfl
     have ql:=iX.out;have HV:=Nf hv;clear hv aa
     go_wp2_with (first|(at_len;go_loud (refine Jjm rfl (.tmp 41) 116 rfl Tryz.underlying116 (wa.heap.size+1) n f 0 rfl hm.out ?_)))
     refine Nv (v:= .tuple #[.slice B out.length bc,.agg #[.int .i64 0,.int .i64 0,.int .i64 0]]) Gq rfl ⟨⟨.slice B out.length bc,Vp,?_⟩,?_⟩
     ·rw [HV.out];dsimp only;refine K8 (B:=wn.heap.size) ?_ Ua
      (repeat first|(with_reducible assumption)|refine Js ?_|refine Kp ?_|refine Kn ?_ (fun b hb=>Sn) _ _)
     ·(repeat refine Jh ?_)
      exact Km
    | succ c=>
     have gm:=aa.out;rw [Jj9,if_pos Ua,Nat.add_sub_cancel] at gm;obtain⟨S,hS⟩:∃S,S=Jbi f nd 0 p.eqs (-1):=⟨_,rfl⟩;rw [<-hS] at gm;have wY:=Nf gm;have tN:=Nf hS;clear gm aa hS;obtain⟨W3,rfl⟩:∃W3,W3=wr:=⟨wr,rfl⟩;have ss:(0:Int)<((c+1:Nat):Int):=Ua;have hw3g:g<W3.heap.size:=Ua
     go_wp2_with (first|(at_len;go_loud (refine Jjm rfl (.tmp 41) 116 rfl Tryz.underlying116 (wa.heap.size+1) n f (c+1) rfl hm.out ?_)))
     go_loopw [10,11,47] (fun x l i wr=>∃(k:Nat) (m0:Int),k<=p.eqs.length/\i = .int .i64 k/\x = .int .i64 (-1)/\l = .int .i64 m0/\Hid (Jbi f nd k (p.eqs.drop k) m0=S)/\Below W3.heap.size W3 wr) (fun _ _ i _=>p.eqs.length-(intOf i).toNat)
     case atStart=>exact⟨0,-1,Np,rfl,rfl,rfl,Nf (by rw [List.drop_zero];exact tN.out.symm),Nt⟩
     case round=>
      obtain⟨k,m0,hk,rfl,rfl,rfl,pZ,dB⟩:=hrel;have rR:=Nd w wr (Jn aC dB Ua);have ky:=Jg dB;have lc:=Jf dB;have rP:=dB.size;have hwv:=lt0 w wr;have hwv1:=ltA w 1 wr;have hwvg:g<wr.heap.size:=Ua
      by_cases am:k<p.eqs.length
      ·obtain⟨q,hx,-,hd⟩:=Kl am;obtain⟨b,off,B1,n1,B2,n2,rfl,aH,⟨g0,g1,g2,g3,g4,g5,g6,g7,g8,g9,s1,s2⟩⟩:=(bT.later rR).get hx;have dw:=pZ.out;rw [hd,Jbi] at dw;obtain⟨Ar,cr,sd,fb⟩:=hnrow g _ _ xs HNR.out k q am hx;have kq:Qf wr (nd q) Ar cr:=fb wr (fun b h1 h2 _=>(dB.block b Ua).trans (bB.out.block b h2 Vc));have r0:=Nb W3 g k (.slice Ar (nd q).length cr) (Jr (bB.out.block g hglt Vc) ((tm.out.cellAt k Ua).trans sd));have ej:=hm.out.bel dB;have dW:=ej.lt;have aj:=Ni hx;have dn:=(jR.out q aj).1;have lg:=HNDS.out q aj;have HX:=Nf hx;have hbk:b<wr.heap.size:=Ua;clear sd fb hd hx pZ aj s1 s2
       rcases lF:f q.name with _|v
       ·rw [lF,if_neg Ul] at dw;have rb:=Nf lF;have vH:=Nf dw;clear lF dw;exact Uao
       by_cases uY:v=(k:Int)
       ·subst uY;rw [lF,if_pos rfl] at dw;have rb:=Nf lF;have t5:((k:Int) != (k:Int))=false:=Ul;clear lF
        cases xb:Jb2 f (nd q)
        ·rw [xb,if_neg Ul] at dw;have HRD:=Nf xb;clear xb
         by_cases eU:m0<0
         ·rw [if_pos eU] at dw;have vH:=Nf dw;clear dw
          go_wp2_with (first|(at_lookup;go_loud (refine Qh rfl (.tmp 53) (.tmp 55) 116 rfl Tryz.underlying9 Tryz.underlying116 Tryz.underlying3 (Kj _) (wa.heap.size+1) n f q.name rfl ((ej.keep1 (heap_alloc_old _ _ dW)).plain) rfl dn ?_;rw [rb.out];simp only [Option.getD_none,Option.isSome_none,Option.getD_some,Option.isSome_some]))|(go_at_call 47;go_loud (refine(Jf0 (nd q) Ar cr (wa.heap.size+1) n f _ (kq.later Jb) ((ej.keep1 (heap_alloc_old _ _ dW)).plain) lg).mono ?_;rw [HRD.out];rintro r wy ⟨rfl,gl⟩;have hcy:=Jg gl;have hfy:=Jf gl;have hzy:wr.heap.size+1<=wy.heap.size:=Gf;have hyy:=lt0 w wy;have pu:=ltA w 1 wy)))
          go_roundw
          case rel=>exact⟨k+1,k,Ua,Up,rfl,rfl,vH,Jb⟩
          case measure=>simp [intOf];try omega
         ·rw [if_neg eU] at dw;have vH:=Nf dw;clear dw
          go_wp2_with (first|(at_lookup;go_loud (refine Qh rfl (.tmp 53) (.tmp 55) 116 rfl Tryz.underlying9 Tryz.underlying116 Tryz.underlying3 (Kj _) (wa.heap.size+1) n f q.name rfl ((ej.keep1 (heap_alloc_old _ _ dW)).plain) rfl dn ?_;rw [rb.out];simp only [Option.getD_none,Option.isSome_none,Option.getD_some,Option.isSome_some]))|(go_at_call 47;go_loud (refine(Jf0 (nd q) Ar cr (wa.heap.size+1) n f _ (kq.later Jb) ((ej.keep1 (heap_alloc_old _ _ dW)).plain) lg).mono ?_;rw [HRD.out];rintro r wy ⟨rfl,gl⟩;have hcy:=Jg gl;have hfy:=Jf gl;have hzy:wr.heap.size+1<=wy.heap.size:=Gf;have hyy:=lt0 w wy;have pu:=ltA w 1 wy)))
          go_roundw
          case rel=>exact⟨k+1,m0,Ua,Up,rfl,rfl,vH,Jb⟩
          case measure=>simp [intOf];try omega
        ·rw [xb,if_pos rfl] at dw;have HRD:=Nf xb;have gm:=wY.out;rw [<-dw] at gm;dsimp only at gm;rw [if_neg Ua,Jms (q:=q) (by rw [Int.toNat_natCast];exact HX.out)] at gm;have HV:=Nf gm;have eR:¬((k:Int)<0):=Ua;clear xb dw gm wY tN
         by_cases eU:m0<0
         ·exact Ts
         ·exact Ts
       ·rw [lF,if_neg (by intro e;injection e with e;exact uY e)] at dw;have rb:=Nf lF;have vH:=Nf dw;have t5:(v != (k:Int))=true:=by simpa using uY
        clear lF dw uY;exact Uao
      ·obtain rfl:k=p.eqs.length:=Ua;have dw:=pZ.out;rw [Nn,Jbi] at dw;have gm:=wY.out;rw [<-dw] at gm;dsimp only at gm;rw [if_pos Ux] at gm;have HV:=Nf gm;clear gm dw pZ
       go_wp2_with fail
       refine Nv (v:= .tuple #[.slice none 0 0,.agg #[.int .i64 3,.int .i64 m0,.int .i64 22]]) Gq rfl ⟨⟨.slice none 0 0,by rw [<-HV.out],?_⟩,?_⟩
       ·rw [<-HV.out];exact Nw
       ·(repeat refine Jh ?_)
        exact Km
theorem Jfr (p:Pr) (a:PrA) (w:World) (hg:Ql w) (hp:Kr w p a) (aw:Q4 p) (n1:p.ins.length<=1000000) (n2:p.outs.length<=1000000) (n3:p.locals.length<=1000000) (n4:p.eqs.length<=1000000) :
  Calls Tryz.prog 24 #[prV p a] w fun r w'=>(∃v,r = .returned (.tuple #[v,fV (J1 p).2])/\w'.ownsRow w.heap.size 3 1 v (J1 p).1.length ((J1 p).1.map (.int .i64)))/\Below w.heap.size w w':=by
 by_cases aN:Qg p=(0,0,0)
 ·have h:=Jql p a w hg hp aw n1 n2 n3 n4 aN;rw [show J1 p=Jdx p by unfold J1;rw [if_pos aN,Jtf aN]];exact h
 ·refine(Jqt p a w hg hp n1 n2 n3 n4 aN).mono ?_;exact Ubx
theorem Jg8 (p:Pr) (a:PrA) (w:World) (hp:Kr w p a) (aw:Q4 p) (n1:p.ins.length<=1000000) (n2:p.outs.length<=1000000) (n3:p.locals.length<=1000000) (n4:p.eqs.length<=1000000) :
  Calls Tryz.prog 29 #[prV p a] w fun r w'=>(∃v,r = .returned (.tuple #[v,fV (J1 p).2])/\w'.ownsRow w.heap.size 3 1 v (J1 p).1.length ((J1 p).1.map (.int .i64)))/\Below w.heap.size w w':=by
 by_cases aN:Qg p=(0,0,0)
 ·have h:=Jou p a w hp aw n1 n2 n3 n4 aN;rw [show J1 p=Jbo p by unfold J1;rw [if_pos aN]];exact h
 ·refine(Jqb p a w hp aw n1 n2 n3 n4 aN).mono ?_;exact Ubx
theorem Yq.take {w:World} {l:List Int} {A:Option Addr} {cap:Nat} (h:Yq w l A cap) (k:Nat):Yq w (l.take k) A cap:=
 ⟨by have:=h.1;simp;omega,h.2.1,fun hl=>by
  obtain⟨b,off,hA,hr⟩:=h.2.2 (by simp at hl;omega);exact⟨b,off,hA,fun j x hj=>hr j x (by rw [List.getElem?_take] at hj;split at hj <;> simp_all)⟩⟩
end Go.Proofs.YtknfcamdfdfoeaaGreatDoor
