/- Lemmas. -/
import Derived.Test.YtdgjplldlfeolaaGreatDoorZ22
set_option linter.unusedVariables false
set_option linter.unusedSimpArgs false
set_option maxRecDepth 100000
set_option maxHeartbeats 64000000
namespace Go.Proofs.YtdgjplldlfeolaaGreatDoor
open Go.RowKit Go.Sort
theorem Jq7 {v:Value} {B s z:Nat} (am:∀k,v.ownBlock=some k->B<=k/\k<s) (hz:z<B):v.ownBlock=none\/v.ownBlock≠some z:=by
 cases hv:v.ownBlock with
 | none=>exact .inl rfl
 | some b=>exact .inr fun e=>by have:=(am b hv).1;injection e with e;omega
theorem Jap.nameCell {w:World} {l:List Qe} {b off cap k:Nat} {q:Qe} (h:Jap w l (some ⟨b,off,none⟩) cap) (hk:l[k]?=some q):w.cell? ⟨b,off+k * 10,none⟩=some (.string q.name):=by
 obtain⟨b',o',_,_,_,_,hA,_,hc⟩:=h.get hk;injection hA with e;injection e with e1 e2;subst e1 e2;exact hc.g0
theorem Jdu {B:Nat} {w w':World} (h:Below B w w'):∀b o:Nat,b<B->w'.cell? ⟨b,o,none⟩=w.cell? ⟨b,o,none⟩:=fun b o hb=>h.cell (p:=⟨b,o,none⟩) hb
theorem Jfi {B:Nat} {w w':World} (h:Below B w w'):∀b o:Nat,b<B->w'.frozen? ⟨b,o,none⟩=w.frozen? ⟨b,o,none⟩:=fun b o hb=>h.frozen (p:=⟨b,o,none⟩) hb
theorem Jql (p:Pr) (a:PrA) (w:World) (hg:Ql w) (hp:Kr w p a) (aw:Ke5 p) (n1:p.ins.length<=1000000) (n2:p.outs.length<=1000000) (n3:p.locals.length<=1000000) (n4:p.eqs.length<=1000000) (aN:Qg p=(0,0,0)) :
  Calls Tryz.prog 106 #[prV p a] w fun r w'=>(∃v,r = .returned (.tuple #[v,fV (Jdx p).2])/\w'.ownsRow w.heap.size 3 1 v (Jdx p).1.length ((Jdx p).1.map (.int .i64)))/\Below w.heap.size w w':=by
 have hO:Jdx p=Jj9 (Z1 (Je p)) p.eqs (Yt 0 (fun _=>none) 0 p.eqs).2 (Yt 0 (fun _=>none) 0 p.eqs).1 (Yt 0 (fun _=>none) 0 p.eqs).2 []:=rfl;generalize Jdx p=O at *;obtain⟨FW,hFW⟩:∃F,F=Yt 0 (fun _=>none) 0 p.eqs:=⟨_,rfl⟩;rw [<-hFW] at hO;have jn:=(Xp (Xk aN).1).1
 have dn:∀q∈p.eqs,q.name.size<=maxLen/\q.e.OK/\q.e.size<=1000000:=fun q hq=>by
  obtain⟨h1,_,h2,_⟩:=Jaq ((X4 jn).2.2.2.2 q hq);exact⟨by unfold maxLen;omega,(aw.eqs q hq).2.2.2,by omega⟩
 have nb:∀v∈Je p,v.name.size<=maxLen:=fun v hv=>by have:=(Jep jn v hv).1;unfold maxLen;omega
 have lg:∀q∈p.eqs,∀s∈Z1 (Je p) q,s.size<=maxLen:=fun q hq s hs=>by
  obtain⟨v,hv,rfl⟩:=Jjh aN hq hs;exact nb v hv
 have aV:=fun W h=>Jhx p a W (hg.later h) (hp.later h) n1 n2 n3 n4;have qm:=Lib.hid (fun W (h:Below w.heap.size w W)=>Jsz p a W (hp.later h) n1 n2 n3 n4 nb dn);rw [aN] at aV;clear aN jn aw hg;generalize Je p=L at *;obtain⟨nd,nq⟩:∃nd,nd=Z1 L:=⟨_,rfl⟩;have hnrow:∀g k W xs,Jde L p.eqs g k W xs->∀(j:Nat) (q:Qe),j<k->p.eqs[j]?=some q->∃A cap,xs[j]?=some (.slice A (nd q).length cap)/\Off (g+1) none W (fun V=>Qf V (nd q) A cap):=fun g k W xs h=>by rw [nq];exact h.1
 rw [<-nq] at hO lg;have HO:=Lib.hid hO;have HFW:=Lib.hid hFW;have jR:=Lib.hid dn;have HNDS:=Lib.hid lg;clear hO hFW dn lg nb nq;have dp:∀w,(Op.equalIn 10000 32 (.agg #[.int .i64 0,.int .i64 0,.int .i64 0]) (.agg #[.int .i64 0,.int .i64 0,.int .i64 0])).run Tryz.prog w = .ok true w:=fun w=>by rw [Zr];rfl
 have fM:Tryz.prog.eqGuardType Tryz.prog.depth 32=false:=by kernel_rfl
 have gI:=@run_makeMap Tryz.prog;have bT:=hp.eqs;have cG:=hp.eqs.len;obtain⟨A1,c1,A2,c2,A3,c3,A4,c4⟩:=a;unfold maxLen at cG;unfold prV fV at *;dsimp only at *;obtain⟨fT,fU⟩:=cG;clear hp
 go_enter Tryz.func106,Tryz.ntmps106
 go_wp2_with (first|(go_at_call 121;refine(aV _ Jb).mono ?_;rintro r wa ⟨rfl,aA⟩;have aW:=Jg aA;have bS:=Jf aA;have cN:w.heap.size+2<=wa.heap.size:=(by have:=aA.size;simpa using this);have dG:w.heap.size<wa.heap.size:=(by omega);have aX:w.heap.size+1<wa.heap.size:=(by omega)))
 refine Jo fun W0 ag=>?_;have ax:Below w.heap.size w W0:=by rw [ag];(repeat refine Jh ?_);exact Km
 have hmb1:w.heap.size+1<(wa.heap.size+1):=by omega
 have hmb2:(wa.heap.size+1)<W0.heap.size:=by rw [ag];simp
 have eU:Jaj Tryz.prog 9 3 W0 (wa.heap.size+1) 0 (fun _=>none) 0:=by
  rw [ag];have h1:=Jaj.made (P:=Tryz.prog) (k:=9) (e:=3) (wa.alloc (.cells #[.int .i64 0,.int .i64 0,.int .i64 0] 32));simpa using h1
 have x0:W0.cell? ⟨w.heap.size,0,none⟩=some (.string p.name):=by rw [ag];go_simp
 have x1:W0.cell? ⟨w.heap.size,1,none⟩=some (.slice A1 p.ins.length c1):=by rw [ag];go_simp
 have x2:W0.cell? ⟨w.heap.size,2,none⟩=some (.slice A2 p.outs.length c2):=by rw [ag];go_simp
 have x3:W0.cell? ⟨w.heap.size,3,none⟩=some (.slice A3 p.locals.length c3):=by rw [ag];go_simp
 have x4:W0.cell? ⟨w.heap.size,4,none⟩=some (.slice A4 p.eqs.length c4):=by rw [ag];go_simp
 have f0:W0.cell? ⟨w.heap.size+1,0,none⟩=some (.int .i64 0):=by rw [ag];go_simp
 have f1:W0.cell? ⟨w.heap.size+1,1,none⟩=some (.int .i64 0):=by rw [ag];go_simp
 have f2:W0.cell? ⟨w.heap.size+1,2,none⟩=some (.int .i64 0):=by rw [ag];go_simp
 have z0:W0.frozen? ⟨w.heap.size+1,0,none⟩=false:=by rw [ag];go_simp
 have z1:W0.frozen? ⟨w.heap.size+1,1,none⟩=false:=by rw [ag];go_simp
 have z2:W0.frozen? ⟨w.heap.size+1,2,none⟩=false:=by rw [ag];go_simp
 have hmb0:w.heap.size<(wa.heap.size+1):=by omega
 clear ag aW bS aA cN dG aX aV gI dp fM
 go_loopw [26] (fun i wr=>∃(k n c:Nat) (f:ByteArray->Option Int),k<=p.eqs.length/\i = .int .i64 k/\n<=k/\c<=k/\Hid (Jaj Tryz.prog 9 3 wr (wa.heap.size+1) n f c)/\Hid (Yt k f c (p.eqs.drop k)=FW)/\Hid (W0.grownBy wr (some (wa.heap.size+1)))) (fun i _=>p.eqs.length-(intOf i).toNat)
 case atStart=>exact⟨0,0,0,_,Nat.zero_le _,rfl,Nat.le_refl _,Nat.le_refl _,Lib.hid eU,Lib.hid (by rw [List.drop_zero];exact HFW.out.symm),Lib.hid ⟨rfl,rfl,rfl,Nat.le_refl _,fun _ _ _=>rfl⟩⟩
 case round=>
  obtain⟨k,n,c,f,hk,rfl,hn,hc,hm,nf,bB⟩:=hrel;have eC:=bB.out.size;have dh:Below w.heap.size w wr:=J2 ax bB.out (fun b hb=>by injection hb with hb;omega) (by omega);have iQ:Below (wa.heap.size+1) W0 wr:=J2 (Below.refl (wa.heap.size+1) W0) bB.out (fun b hb=>by injection hb with hb;omega) (by omega);have fG:=Jdu iQ;have wZ:=Jfi iQ;have ej:=hm.out;have dW:=hm.out.lt;have qn:w.heap.size<wr.heap.size:=by omega
  by_cases am:k<p.eqs.length
  ·obtain⟨q,hx,-,hd⟩:=Kl am;obtain⟨b,off,B1,n1,B2,n2,rfl,aH,⟨g0,g1,g2,g3,g4,g5,g6,g7,g8,g9,s1,s2⟩⟩:=(bT.later dh).get hx;have qo:=nf.out;rw [hd,Yt] at qo;have dn:=(jR.out q (List.mem_of_getElem? hx)).1;clear hd hx nf
   cases ek:(q.delay == 0)
   ·rw [ek,if_neg (by simp)] at qo;have HW:=Lib.hid qo;clear qo
    go_wp2_with fail
    go_roundw
    case rel=>exact⟨k+1,n,c,f,by omega,by go_num,by omega,by omega,Lib.hid (ej.keep1 (heap_alloc_old _ _ dW)),HW,Lib.hid (Qn bB.out (World.grownBy_alloc wr _ _))⟩
    case measure=>simp [intOf];omega
   ·rw [ek,if_pos rfl] at qo;have HW:=Lib.hid qo;clear qo
    go_wp2_with (first|(at_mapUpdate;go_loud (refine Jte rfl (.tmp 34) (.tmp 36) (.tmp 37) 235 rfl Tryz.underlying9 Tryz.underlying235 Tryz.underlying3 (wa.heap.size+1) n f c q.name (k:Int) rfl (ej.keep1 (heap_alloc_old _ _ dW)) (by omega) rfl rfl dn (by omega) ?_;intro w2 cI aG;have kj:=Lib.hid cI;have kr:=Lib.hid aG;clear cI aG)))
    go_roundw
    case rel=>exact⟨k+1,n+1,_,_,by omega,by go_num,by omega,by split <;> omega,kj,HW,Lib.hid (Qn bB.out (Qn (World.grownBy_alloc wr _ _) kr.out))⟩
    case measure=>simp [intOf];omega
  ·obtain rfl:k=p.eqs.length:=by omega
   have qo:=nf.out;rw [List.drop_length] at qo;have hfw:FW=(f,c):=qo.symm;have ho:=HO.out;rw [hfw] at ho;have sK:=Lib.hid ho.symm;clear nf qo hfw ho HO HFW
   go_wp2_with (first|(go_at_call 122;go_loud (refine(qm.out _ Jb).mono ?_;rintro r wn ⟨⟨g,xs,rfl,rG,ae,vE⟩,dI⟩;have qJ:=Jg dI;have lF:=Jf dI;have qp:=dI.size;have xa:w.heap.size<wn.heap.size:=(by omega);have hyn1:w.heap.size+1<wn.heap.size:=(by omega);have tm:=Lib.hid ae;have HNR:=Lib.hid vE;clear ae vE)))
   have hmn:(wa.heap.size+1)<g:=by omega
   refine Jo fun W1 bt=>?_;have hW1n:wn=W1:=by rw [bt]
   subst hW1n;have vF:Below w.heap.size w wn:=Jn dh dI (by omega);have vG:Below (wa.heap.size+1) W0 wn:=iQ.trans (dI.mono (by omega));have iw:Hid (Jaj Tryz.prog 9 3 wn (wa.heap.size+1) n f c):=Lib.hid (ej.bel dI);have hglt:g<wn.heap.size:=(tm.out.lt g rfl).2;clear qJ lF fG wZ iQ dh bB hm ej bt qm dI
   go_loopw [9] (fun o wr=>∃(c:Nat) (f:ByteArray->Option Int) (B:Option Addr) (bc:Nat) (out:List Int),out.length+c<=1000000/\o = .slice B out.length bc/\Hid (Jaj Tryz.prog 9 3 wr (wa.heap.size+1) n f c)/\Hid (Jj9 nd p.eqs c f c out=O)/\Hid (wr.ownsRow wn.heap.size 3 1 (.slice B out.length bc) out.length (out.map (.int .i64)))/\Hid (wn.grownBy wr (some (wa.heap.size+1)))) (fun o _=>1000000-Jfh o)
   case atStart=>exact⟨c,f,none,0,[],by simp;omega,rfl,iw,sK,Lib.hid (World.ownsRow_nil _ _ _ _),Lib.hid ⟨rfl,rfl,rfl,Nat.le_refl _,fun _ _ _=>rfl⟩⟩
   case round=>
    clear iw sK hc;obtain⟨c,f,B,bc,out,lq,rfl,hm,aa,iX,bB⟩:=hrel;have eC:=bB.out.size;have aC:Below w.heap.size w wr:=J2 vF bB.out (fun b hb=>by injection hb with hb;omega) (by omega);have iQ:Below (wa.heap.size+1) W0 wr:=J2 vG bB.out (fun b hb=>by injection hb with hb;omega) (by omega);have fG:=Jdu iQ;have wZ:=Jfi iQ;have wD:w.heap.size+1<wr.heap.size:=by omega
    have tL:w.heap.size<wr.heap.size:=by omega
    cases c with
    | zero=>
     have hv:O=(out,(0,0,0)):=by rw [<-aa.out];rfl
     have ql:=iX.out;have HV:=Lib.hid hv;clear hv aa
     go_wp2_with (first|(at_len;go_loud (refine Jjm rfl (.tmp 41) 235 rfl Tryz.underlying235 (wa.heap.size+1) n f 0 rfl hm.out ?_)))
     refine bodyPost_ret (v:= .tuple #[.slice B out.length bc,.agg #[.int .i64 0,.int .i64 0,.int .i64 0]]) (by simp [results,Tryz.results106,go_sem, *]) rfl ⟨⟨.slice B out.length bc,by rw [HV.out],?_⟩,?_⟩
     ·rw [HV.out];dsimp only;refine K8 (B:=wn.heap.size) ?_ (by omega)
      (repeat first|(with_reducible assumption)|refine Js ?_|refine Kp ?_|refine Kn ?_ (fun b hb=>by have:=(ql.lt b hb).1;omega) _ _)
     ·(repeat refine Jh ?_)
      exact Km
    | succ c=>
     have gm:=aa.out;rw [Jj9,if_pos (by omega),Nat.add_sub_cancel] at gm;obtain⟨S,hS⟩:∃S,S=Jbi f nd 0 p.eqs (-1):=⟨_,rfl⟩;rw [<-hS] at gm;have wY:=Lib.hid gm;have tN:=Lib.hid hS;clear gm aa hS;obtain⟨W3,rfl⟩:∃W3,W3=wr:=⟨wr,rfl⟩;have ss:(0:Int)<((c+1:Nat):Int):=by omega
     have hw3g:g<W3.heap.size:=by omega
     go_wp2_with (first|(at_len;go_loud (refine Jjm rfl (.tmp 41) 235 rfl Tryz.underlying235 (wa.heap.size+1) n f (c+1) rfl hm.out ?_)))
     go_loopw [10,11,47] (fun x l i wr=>∃(k:Nat) (m0:Int),k<=p.eqs.length/\i = .int .i64 k/\x = .int .i64 (-1)/\l = .int .i64 m0/\Hid (Jbi f nd k (p.eqs.drop k) m0=S)/\Below W3.heap.size W3 wr) (fun _ _ i _=>p.eqs.length-(intOf i).toNat)
     case atStart=>exact⟨0,-1,Nat.zero_le _,rfl,rfl,rfl,Lib.hid (by rw [List.drop_zero];exact tN.out.symm),Below.refl _ _⟩
     case round=>
      obtain⟨k,m0,hk,rfl,rfl,rfl,pZ,dB⟩:=hrel;have rR:Below w.heap.size w wr:=Jn aC dB (by omega);have ky:=Jg dB;have lc:=Jf dB;have rP:=dB.size;have hwv:w.heap.size<wr.heap.size:=by omega
      have hwv1:w.heap.size+1<wr.heap.size:=by omega
      have hwvg:g<wr.heap.size:=by omega
      by_cases am:k<p.eqs.length
      ·obtain⟨q,hx,-,hd⟩:=Kl am;obtain⟨b,off,B1,n1,B2,n2,rfl,aH,⟨g0,g1,g2,g3,g4,g5,g6,g7,g8,g9,s1,s2⟩⟩:=(bT.later rR).get hx;have dw:=pZ.out;rw [hd,Jbi] at dw;obtain⟨Ar,cr,sd,fb⟩:=hnrow g _ _ xs HNR.out k q am hx;have kq:Qf wr (nd q) Ar cr:=fb wr (fun b h1 h2 _=>(dB.block b (by omega)).trans (bB.out.block b h2 (by intro he;injection he with he;omega)));have r0:W3.cell? ⟨g,k,none⟩=some (.slice Ar (nd q).length cr):=Jr (bB.out.block g hglt (by intro he;injection he with he;omega)) ((tm.out.cellAt k (by omega)).trans sd);have ej:=hm.out.bel dB;have dW:=ej.lt;have aj:=List.mem_of_getElem? hx;have dn:=(jR.out q aj).1;have lg:=HNDS.out q aj;have HX:=Lib.hid hx;have hbk:b<wr.heap.size:=by omega
       clear sd fb hd hx pZ aj s1 s2
       rcases lF:f q.name with _|v
       ·rw [lF,if_neg (by simp)] at dw;have rb:=Lib.hid lF;have vH:=Lib.hid dw;clear lF dw
        go_wp2_with (first|(at_lookup;go_loud (refine Qh rfl (.tmp 53) (.tmp 55) 235 rfl Tryz.underlying9 Tryz.underlying235 Tryz.underlying3 (Kj _) (wa.heap.size+1) n f q.name rfl ((ej.keep1 (heap_alloc_old _ _ dW)).plain) rfl dn ?_;rw [rb.out];simp only [Option.getD_none,Option.isSome_none,Option.getD_some,Option.isSome_some])))
        go_roundw
        case rel=>exact⟨k+1,m0,by omega,by go_num,rfl,rfl,vH,Jb⟩
        case measure=>simp [intOf];try omega
       by_cases uY:v=(k:Int)
       ·subst uY;rw [lF,if_pos rfl] at dw;have rb:=Lib.hid lF;have t5:((k:Int) != (k:Int))=false:=by simp
        clear lF
        cases xb:Jb2 f (nd q)
        ·rw [xb,if_neg (by simp)] at dw;have HRD:=Lib.hid xb;clear xb
         by_cases eU:m0<0
         ·rw [if_pos eU] at dw;have vH:=Lib.hid dw;clear dw
          go_wp2_with (first|(at_lookup;go_loud (refine Qh rfl (.tmp 53) (.tmp 55) 235 rfl Tryz.underlying9 Tryz.underlying235 Tryz.underlying3 (Kj _) (wa.heap.size+1) n f q.name rfl ((ej.keep1 (heap_alloc_old _ _ dW)).plain) rfl dn ?_;rw [rb.out];simp only [Option.getD_none,Option.isSome_none,Option.getD_some,Option.isSome_some]))|(go_at_call 123;go_loud (refine(Jf0 (nd q) Ar cr (wa.heap.size+1) n f _ (kq.later Jb) ((ej.keep1 (heap_alloc_old _ _ dW)).plain) lg).mono ?_;rw [HRD.out];rintro r wy ⟨rfl,gl⟩;have hcy:=Jg gl;have hfy:=Jf gl;have hzy:wr.heap.size+1<=wy.heap.size:=(by have:=gl.size;simpa using this);have hyy:w.heap.size<wy.heap.size:=(by omega);have pu:w.heap.size+1<wy.heap.size:=(by omega))))
          go_roundw
          case rel=>exact⟨k+1,k,by omega,by go_num,rfl,rfl,vH,Jb⟩
          case measure=>simp [intOf];try omega
         ·rw [if_neg eU] at dw;have vH:=Lib.hid dw;clear dw
          go_wp2_with (first|(at_lookup;go_loud (refine Qh rfl (.tmp 53) (.tmp 55) 235 rfl Tryz.underlying9 Tryz.underlying235 Tryz.underlying3 (Kj _) (wa.heap.size+1) n f q.name rfl ((ej.keep1 (heap_alloc_old _ _ dW)).plain) rfl dn ?_;rw [rb.out];simp only [Option.getD_none,Option.isSome_none,Option.getD_some,Option.isSome_some]))|(go_at_call 123;go_loud (refine(Jf0 (nd q) Ar cr (wa.heap.size+1) n f _ (kq.later Jb) ((ej.keep1 (heap_alloc_old _ _ dW)).plain) lg).mono ?_;rw [HRD.out];rintro r wy ⟨rfl,gl⟩;have hcy:=Jg gl;have hfy:=Jf gl;have hzy:wr.heap.size+1<=wy.heap.size:=(by have:=gl.size;simpa using this);have hyy:w.heap.size<wy.heap.size:=(by omega);have pu:w.heap.size+1<wy.heap.size:=(by omega))))
          go_roundw
          case rel=>exact⟨k+1,m0,by omega,by go_num,rfl,rfl,vH,Jb⟩
          case measure=>simp [intOf];try omega
        ·rw [xb,if_pos rfl] at dw;have HRD:=Lib.hid xb;have gm:=wY.out;rw [<-dw] at gm;dsimp only at gm;rw [if_neg (by omega),Jms (q:=q) (by rw [Int.toNat_natCast];exact HX.out)] at gm;have HV:=Lib.hid gm;have eR:¬((k:Int)<0):=by omega
         clear xb dw gm wY tN
         by_cases eU:m0<0
         ·go_wp2_with (first|(at_lookup;go_loud (refine Qh rfl (.tmp 53) (.tmp 55) 235 rfl Tryz.underlying9 Tryz.underlying235 Tryz.underlying3 (Kj _) (wa.heap.size+1) n f q.name rfl ((ej.keep1 (heap_alloc_old _ _ dW)).plain) rfl dn ?_;rw [rb.out];simp only [Option.getD_none,Option.isSome_none,Option.getD_some,Option.isSome_some]))|(go_at_call 123;go_loud (refine(Jf0 (nd q) Ar cr (wa.heap.size+1) n f _ (kq.later Jb) ((ej.keep1 (heap_alloc_old _ _ dW)).plain) lg).mono ?_;rw [HRD.out];rintro r wy ⟨rfl,gl⟩;have hcy:=Jg gl;have hfy:=Jf gl;have hzy:wr.heap.size+1<=wy.heap.size:=(by have:=gl.size;simpa using this);have hyy:w.heap.size<wy.heap.size:=(by omega);have pu:w.heap.size+1<wy.heap.size:=(by omega)))|(at_builtin;go_loud (refine Z2 rfl (.tmp 81) (.tmp 83) 140 rfl wn.heap.size 3 _ 1 8 Tryz.underlying140 Zd rfl (by omega) (.slice B out.length bc) out.length (out.map (.int .i64)) _ 1 1 [.int .i64 (k:Int)] rfl (Js (Jy (Js (Jy iX.out dB)) gl)) rfl rfl (fun j u hj=>by rw [Kw];simpa using hj) (by simp [Value.oneCell']) (by omega) (by omega) (by simp;omega) ?_;intro v4 w4 cj cg hor4;have kt:=Yz (Qn (Qn (Qn (Qn bB.out (Jat dB)) (World.grownBy_alloc _ _ _)) (Jat gl)) (World.grownBy_alloc _ _ _)) cg (.inr fun k hk=>(iX.out.lt k hk).1);have sS:=hm.out.keep1 (((cg.block (wa.heap.size+1) (by simp;omega) (fun e=>by have:=(iX.out.lt _ e.symm).1;omega)).trans ((heap_alloc_old _ _ (by omega)).trans ((gl.block (wa.heap.size+1) (by simp;omega)).trans (heap_alloc_old _ _ (by omega))))).trans (dB.block (wa.heap.size+1) (by omega)));have vI:Below w.heap.size w w4:=J2 vF kt (fun b hb=>by injection hb with hb;omega) (by omega);have vJ:Below (wa.heap.size+1) W0 w4:=J2 vG kt (fun b hb=>by injection hb with hb;omega) (by omega);have wA:=Jdu vJ;have qS:wn.heap.size<=w4.heap.size:=kt.size;have gq4:=(bT.later vI).nameCell HX.out;obtain⟨A4',cv4,rfl,it,iu⟩:=Jv cj))|(at_delete;go_loud (refine Jjl rfl (.tmp 85) (.tmp 91) 235 rfl Tryz.underlying9 Tryz.underlying235 (wa.heap.size+1) n f (c+1) q.name rfl sS rfl dn ?_;intro w5 c5 hm5 vL eT;rw [rb.out] at vL;simp only [Option.isSome_some,if_true] at vL;simp only [Act.put])))
          go_roundw
          case rel=>
           obtain rfl:c5=c:=by omega
           exact⟨_,Jck f q.name,A4',cv4,out ++ [(k:Int)],by simp;omega,by simp,Lib.hid hm5,HV,Lib.hid (by rw [List.map_append,List.length_append];exact cj.kept eT (Jq7 cj.lt (by omega))),Lib.hid (Qn kt eT)⟩
          case measure=>simp [Jfh];try omega
         ·go_wp2_with (first|(at_lookup;go_loud (refine Qh rfl (.tmp 53) (.tmp 55) 235 rfl Tryz.underlying9 Tryz.underlying235 Tryz.underlying3 (Kj _) (wa.heap.size+1) n f q.name rfl ((ej.keep1 (heap_alloc_old _ _ dW)).plain) rfl dn ?_;rw [rb.out];simp only [Option.getD_none,Option.isSome_none,Option.getD_some,Option.isSome_some]))|(go_at_call 123;go_loud (refine(Jf0 (nd q) Ar cr (wa.heap.size+1) n f _ (kq.later Jb) ((ej.keep1 (heap_alloc_old _ _ dW)).plain) lg).mono ?_;rw [HRD.out];rintro r wy ⟨rfl,gl⟩;have hcy:=Jg gl;have hfy:=Jf gl;have hzy:wr.heap.size+1<=wy.heap.size:=(by have:=gl.size;simpa using this);have hyy:w.heap.size<wy.heap.size:=(by omega);have pu:w.heap.size+1<wy.heap.size:=(by omega)))|(at_builtin;go_loud (refine Z2 rfl (.tmp 81) (.tmp 83) 140 rfl wn.heap.size 3 _ 1 8 Tryz.underlying140 Zd rfl (by omega) (.slice B out.length bc) out.length (out.map (.int .i64)) _ 1 1 [.int .i64 (k:Int)] rfl (Js (Jy (Js (Jy iX.out dB)) gl)) rfl rfl (fun j u hj=>by rw [Kw];simpa using hj) (by simp [Value.oneCell']) (by omega) (by omega) (by simp;omega) ?_;intro v4 w4 cj cg hor4;have kt:=Yz (Qn (Qn (Qn (Qn bB.out (Jat dB)) (World.grownBy_alloc _ _ _)) (Jat gl)) (World.grownBy_alloc _ _ _)) cg (.inr fun k hk=>(iX.out.lt k hk).1);have sS:=hm.out.keep1 (((cg.block (wa.heap.size+1) (by simp;omega) (fun e=>by have:=(iX.out.lt _ e.symm).1;omega)).trans ((heap_alloc_old _ _ (by omega)).trans ((gl.block (wa.heap.size+1) (by simp;omega)).trans (heap_alloc_old _ _ (by omega))))).trans (dB.block (wa.heap.size+1) (by omega)));have vI:Below w.heap.size w w4:=J2 vF kt (fun b hb=>by injection hb with hb;omega) (by omega);have vJ:Below (wa.heap.size+1) W0 w4:=J2 vG kt (fun b hb=>by injection hb with hb;omega) (by omega);have wA:=Jdu vJ;have qS:wn.heap.size<=w4.heap.size:=kt.size;have gq4:=(bT.later vI).nameCell HX.out;obtain⟨A4',cv4,rfl,it,iu⟩:=Jv cj))|(at_delete;go_loud (refine Jjl rfl (.tmp 85) (.tmp 91) 235 rfl Tryz.underlying9 Tryz.underlying235 (wa.heap.size+1) n f (c+1) q.name rfl sS rfl dn ?_;intro w5 c5 hm5 vL eT;rw [rb.out] at vL;simp only [Option.isSome_some,if_true] at vL;simp only [Act.put])))
          go_roundw
          case rel=>
           obtain rfl:c5=c:=by omega
           exact⟨_,Jck f q.name,A4',cv4,out ++ [(k:Int)],by simp;omega,by simp,Lib.hid hm5,HV,Lib.hid (by rw [List.map_append,List.length_append];exact cj.kept eT (Jq7 cj.lt (by omega))),Lib.hid (Qn kt eT)⟩
          case measure=>simp [Jfh];try omega
       ·rw [lF,if_neg (by intro e;injection e with e;exact uY e)] at dw;have rb:=Lib.hid lF;have vH:=Lib.hid dw;have t5:(v != (k:Int))=true:=by simpa using uY
        clear lF dw uY
        go_wp2_with (first|(at_lookup;go_loud (refine Qh rfl (.tmp 53) (.tmp 55) 235 rfl Tryz.underlying9 Tryz.underlying235 Tryz.underlying3 (Kj _) (wa.heap.size+1) n f q.name rfl ((ej.keep1 (heap_alloc_old _ _ dW)).plain) rfl dn ?_;rw [rb.out];simp only [Option.getD_none,Option.isSome_none,Option.getD_some,Option.isSome_some])))
        go_roundw
        case rel=>exact⟨k+1,m0,by omega,by go_num,rfl,rfl,vH,Jb⟩
        case measure=>simp [intOf];try omega
      ·obtain rfl:k=p.eqs.length:=by omega
       have dw:=pZ.out;rw [List.drop_length,Jbi] at dw;have gm:=wY.out;rw [<-dw] at gm;dsimp only at gm;rw [if_pos (by decide)] at gm;have HV:=Lib.hid gm;clear gm dw pZ
       go_wp2_with fail
       refine bodyPost_ret (v:= .tuple #[.slice none 0 0,.agg #[.int .i64 3,.int .i64 m0,.int .i64 22]]) (by simp [results,Tryz.results106,go_sem, *]) rfl ⟨⟨.slice none 0 0,by rw [<-HV.out],?_⟩,?_⟩
       ·rw [<-HV.out];exact World.ownsRow_nil _ _ _ _
       ·(repeat refine Jh ?_)
        exact Km
end Go.Proofs.YtdgjplldlfeolaaGreatDoor
