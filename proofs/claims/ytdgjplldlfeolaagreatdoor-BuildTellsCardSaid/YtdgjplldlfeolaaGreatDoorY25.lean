/- Lemmas. -/
import Derived.Test.YtdgjplldlfeolaaGreatDoorMac
import Derived.Test.YtdgjplldlfeolaaGreatDoorY23
import Derived.Test.YtdgjplldlfeolaaGreatDoorY01
set_option linter.unusedVariables false
set_option linter.unusedSimpArgs false
set_option maxRecDepth 100000
set_option maxHeartbeats 64000000
namespace Go.Proofs.YtdgjplldlfeolaaGreatDoor
open Go.RowKit Go.Sort Go.Maps Go.ChangeMaps Go.WideMaps
theorem Jpz (p:Pr) (a:PrA) (w:World) (hg:Ql w) (hp:Kr w p a) (aw:Ke5 p) (n1:p.ins.length<=1000000) (n2:p.outs.length<=1000000) (n3:p.locals.length<=1000000) (n4:p.eqs.length<=1000000) (aS:(Kot p).2≠(0,0,0)) :
  Calls Tryz.prog 128 #[prV p a] w fun r w'=>r = .returned (fV (Kot p).2)/\Below w.heap.size w w':=by
 have ap:=fun W h=>Jr6 p a W (hg.later h) (hp.later h) aw n1 n2 n3 n4 aS;clear hg aw;obtain⟨A1,c1,A2,c2,A3,c3,A4,c4⟩:=a;unfold prV fV at *;dsimp only at *;generalize (Kot p).2=O at *;obtain⟨f1,f2,f3⟩:=O;dsimp only at *
 have mA:(f1 == 0 && f2 == 0 && f3 == 0)=false:=by
  exact Ua9
 have dp:∀w,(Op.equalIn 10000 32 (.agg #[.int .i64 f1,.int .i64 f2,.int .i64 f3]) (.agg #[.int .i64 0,.int .i64 0,.int .i64 0])).run Tryz.prog w = .ok false w:=fun w=>by rw [Zr,mA]
 have fM:Tryz.prog.eqGuardType Tryz.prog.depth 32=false:=Ue;clear aS mA hp
 go_enter Tryz.func128,Tryz.ntmps128
 go_wp2_with (first|(go_at_call 140;go_loud (refine(ap _ Jb).mono ?_;rintro r wo ⟨rfl,cW⟩;have jY:=Jg cW;have lz:=Jf cW;have jB:w.heap.size+2<=wo.heap.size:=Ge;have nY:=lt0 w wo;have jA:=ltA w 1 wo)))
 refine Nv (v:= .agg #[.int .i64 f1,.int .i64 f2,.int .i64 f3]) Gl rfl ⟨rfl,?_⟩
 (repeat refine Jh ?_)
 exact Km
section
variable {P:Program} {k e:TypeId} {w:World}
theorem Jdr {ops:Array Oper} {rest:List Oper} {o:Oper} {a:Act} {Q:Exit->Act->World->Prop} (hw:Region.wanted o (yielded ops a.tmps)=true) (m x:Operand) (t:TypeId) (jf:o.op=Op.lookup t m x false)
  (hk:P.underlying k=some .string) (ht:P.underlying t=some (.map k e)) (he:P.underlying e=some (.int .i64)) (hz:(zeroValue e).run P w = .ok (.int .i64 0) w)
  (b n:Nat) (f:ByteArray->Option Int) (s:ByteArray) (hm:a.eval m = .map (some b)) (ae:Jz P k e w b n f) (hx:a.eval x = .string s) (hs:s.size<=maxLen)
  (hK:wpList P ops Q rest (a.put o.dst (.int .i64 ((f s).getD 0))) w):wpList P ops Q (o :: rest) a w:=by
 obtain⟨D,h1,h2,h3⟩:=ae;obtain⟨c,eH,aY,lD⟩:=h1.lookup_int (string_keyed hk) ht he hz (keyOf_string_mk hk hs);rw [(h3 s).2] at aY;have hc:(f s).getD 0=c:=Dm;rw [hc] at hK;refine wpList_step fun K' hK'=>?_;rw [if_pos hw];unfold Oper.wp;simp [execOp,jf,hm,hx,eH,Result.andThen];exact hK' _ _ hK
end
theorem Jv3 {f:ByteArray->Option Int} {l:List ByteArray} {n:ByteArray} (h:∀s,onM f s=Ka l s):∀s,onM (upd f n 1) s=Ka (l ++ [n]) s:=fun s=>by
 have hs:=h s;unfold onM at hs ⊢;rw [Jcx,Jgw];unfold upd
 by_cases hd:s.data=n.data
 ·rw [if_pos hd,hd];exact Uh
 ·exact Ua3
theorem Jod (p:Pr) (a:PrA) (w:World) (hg:Ql w) (hp:Kr w p a) (aw:Ke5 p) (n1:p.ins.length<=1000000) (n2:p.outs.length<=1000000) (n3:p.locals.length<=1000000) (n4:p.eqs.length<=1000000) (jM:(Kot p).2=(0,0,0)) :
  Calls Tryz.prog 128 #[prV p a] w fun r w'=>r = .returned (fV (Ks p))/\Below w.heap.size w w':=by
 have hO:Ks p=Zg (Jen p (Qs p).1) 0 p.eqs:=by unfold Ks;rw [if_pos jM]
 have aN:=(Yg jM).1;have nb:∀v∈Je p,v.name.size<=maxLen:=fun v hv=>by have:=(Jep (Xp (Xk aN).1).1 v hv).1;unfold maxLen;omega
 have mW:∀v∈Je p,v.cn.size<=maxLen:=fun v hv=>by have:=(Jep (Xp (Xk aN).1).1 v hv).2;unfold maxLen;omega
 have hos:∀v∈p.outs,v.name.size<=maxLen:=fun v hv=>nb v (by simp [Je,hv]);have dj:∀s,(J9 (Je p) s).2.size<=maxLen:=Jsa mW;have dn:=Jfo aN aw;have ap:=fun W h=>Jti p a W (hg.later h) (hp.later h) aw n1 n2 n3 n4 jM;have aJ:=fun W h=>Jcv p a W (hp.later h) n1 n2 n3;have hL3:(Je p).length<=3000000:=Su;obtain⟨h,hh⟩:∃h,h=Jen p (Qs p).1:=⟨_,rfl⟩;rw [<-hh] at hO;have hhq:∀q,h q=Jdp (q.e.torn (inL (Qs p).1)) ((J9 (Je p) q.name).1 != 0) (inL (Qs p).1 (J9 (Je p) q.name).2) (q.delay != 0) (q.e.reach (inL (Qs p).1)) (Ka (p.outs.map (·.name)) q.name) (inL (Qs p).1 q.name):=fun q=>by rw [hh];rfl
 generalize Ks p=O at *;generalize (Qs p).1=LF at *;have HO:=Nf hO;have HH:=Nf hhq;have HVS:=Nf nb;have HOS:=Nf hos;have lo:=Nf dj;have jR:=Nf dn;clear hO hh hhq nb mW hos dj dn jM aN hg aw;have dp:∀w,(Op.equalIn 10000 32 (.agg #[.int .i64 0,.int .i64 0,.int .i64 0]) (.agg #[.int .i64 0,.int .i64 0,.int .i64 0])).run Tryz.prog w = .ok true w:=fun w=>So;have fM:Tryz.prog.eqGuardType Tryz.prog.depth 32=false:=Ue;have gI:=@run_makeMap Tryz.prog;have gL:=hp.outs;have aD:=hp.outs.len;have bT:=hp.eqs;have cG:=hp.eqs.len;obtain⟨A1,c1,A2,c2,A3,c3,A4,c4⟩:=a;unfold maxLen at aD cG;unfold prV fV at *;dsimp only at *;obtain⟨tQ,tR⟩:=aD;obtain⟨fT,fU⟩:=cG;clear hp
 go_enter Tryz.func128,Tryz.ntmps128
 go_wp2_with (first
  | (go_at_call 140;go_loud (refine(ap _ Jb).mono ?_;rintro r wo ⟨⟨B,n,f,rfl,hB,hm,kz⟩,cW⟩;have jY:=Jg cW;have lz:=Jf cW;have jB:w.heap.size+2<=wo.heap.size:=Ge;have nY:=lt0 w wo;have jA:=ltA w 1 wo;have hyo2:w.heap.size<wo.heap.size+1+1+1:=Ua;have hyo3:w.heap.size<wo.heap.size+1:=Ua;have hyo4:w.heap.size<wo.heap.size+1+1:=Ua;have HAG:=Nf kz;clear kz))
  | (go_at_call 118;go_loud (refine(aJ _ Jb).mono ?_;rintro r wv ⟨⟨Av,cv,rfl,ay⟩,dB⟩;have ky:=Jg dB;have lc:=Jf dB;have rP:wo.heap.size+3<=wv.heap.size:=(by have:=dB.size;simpa using this);have hyv:=lt0 w wv;have mt:=ltA w 1 wv;have cR:=Ju.of_own ay)))
 refine Jo fun W0 ag=>?_;have ax:=Nd w W0 L1;have qH:=Nd wo W0 L1;have eU:Jz Tryz.prog 9 3 W0 B n f:=hm.bel qH;have uG:B<wo.heap.size:=hm.lt;have fe:wo.heap.size+3<=W0.heap.size:=by rw [ag];exact rP
 have bE:Off (wo.heap.size+3) none W0 (fun W=>Ju W (Je p) Av cv):=by rw [ag];have:=Ju.off_own' ay;simpa using this
 have hmc:Jaz Tryz.prog 9 W0 (wo.heap.size+1) 0 (fun _=>none):=by
  rw [ag];have h1:=Jaz.made (P:=Tryz.prog) (k:=9) (wo.alloc (.cells #[.int .i64 0,.int .i64 0,.int .i64 0] 32));have h2:=(h1.bel (Jc (Nt) (.map #[] 0))).bel dB;exact Lw
 have hmo:Jz Tryz.prog 9 3 W0 (wo.heap.size+1+1) 0 (fun _=>none):=by
  rw [ag];have h1:=Jz.made (P:=Tryz.prog) (k:=9) (e:=3) ((wo.alloc (.cells #[.int .i64 0,.int .i64 0,.int .i64 0] 32)).alloc (.map #[] 0));have h2:=h1.bel dB;exact Lw
 have x2:=Nb W0 w.heap.size 2 (.slice A2 p.outs.length c2) Uf;have x4:=Nb W0 w.heap.size 4 (.slice A4 p.eqs.length c4) Uf;have f0:=Na W0 (w.heap.size+1) 0 0 Uf;have f1:=Na W0 (w.heap.size+1) 1 0 Uf;have f2:=Na W0 (w.heap.size+1) 2 0 Uf;have z0:=Nc W0 (w.heap.size+1) 0 Uf;have z1:=Nc W0 (w.heap.size+1) 1 Uf;have z2:=Nc W0 (w.heap.size+1) 2 Uf;have cY:=bE.here.len;unfold maxLen at cY;obtain⟨fH,fI⟩:=cY;have hyo5:w.heap.size+1<wo.heap.size+1:=Ua;clear ag jY lz jB nY ky lc rP hyv mt cR ay ap aJ hm cW dB qH dp fM gI;generalize Je p=L at *
 go_loopw [30] (fun i wr=>∃(k n:Nat) (fc:ByteArray->Option Value),k<=L.length/\i = .int .i64 k/\n<=k/\Hid (Jaz Tryz.prog 9 wr (wo.heap.size+1) n fc)/\Hid (Jkd fc (L.take k))/\Hid (W0.grownBy wr (some (wo.heap.size+1)))) (fun i _=>L.length-(intOf i).toNat)
 case atStart=>exact⟨0,0,_,Np,rfl,Ns _,Nf hmc,Nf Jo8,Nf ⟨rfl,rfl,rfl,Ns _,fun _ _ _=>rfl⟩⟩
 case round=>
  obtain⟨k,nc,fc,hk,rfl,hn,pX,aN,bB⟩:=hrel;have eC:=bB.out.size;have iQ:Below (wo.heap.size+1) W0 wr:=Kou (Below.refl _ W0) bB.out (fun b hb=>Uv) Ua;have fG:=Jdu iQ;have ej:=pX.out;have dW:=ej.lt
  by_cases am:k<L.length
  ·have hx:L[k]?=some L[k]:=Ng am;have aj:L[k]∈L:=Nj am;have aP:L.take (k+1)=L.take k ++ [L[k]]:=by rw [List.take_add_one,hx];rfl
   generalize L[k]=x at hx aj aP;have jg:Ju wr L Av cv:=bE wr fun b h1 h2 _=>bB.out.block b h2 U2;obtain⟨b,off,rfl,aH,⟨d0,d1,d2,d3⟩⟩:=jg.get hx;have dT:=HVS.out x aj;have jy:=Nf (by rw [aP];exact Jmq aN.out x:Jkd (Jki fc x.name (Jcf (x.ck,x.cn))) (L.take (k+1)));clear hx aj aP jg aN
   go_wp2_with (first|(at_mapUpdate;go_loud (refine Jlj rfl (.tmp 34) (.tmp 36) (.tmp 38) 205 rfl Tryz.underlying9 Tryz.underlying205 (wo.heap.size+1) nc fc x.name (Jcf (x.ck,x.cn)) rfl (ej.keep1 (heap_alloc_old _ _ dW)) Ua rfl rfl dT ?_;intro w2 cI aG;have kj:=Nf cI;have kr:=Nf aG;clear cI aG)))
   go_roundw
   case rel=>exact⟨k+1,nc+1,_,Ua,Uw,Ua,kj,jy,Nf (Qn bB.out (Qn (World.grownBy_alloc wr _ _) kr.out))⟩
   case measure=>simp [intOf];try omega
  ·obtain rfl:k=L.length:=Ua;have mB:=aN.out;rw [List.take_length] at mB;have jy:=Nf mB;clear aN mB
   go_wp2_with fail
   obtain⟨W1,rfl⟩:∃W1,W1=wr:=⟨wr,rfl⟩;have gS:=Nd w W1 (Kou ax bB.out (fun b hb=>Uv) Ua);have hmo1:Jz Tryz.prog 9 3 W1 (wo.heap.size+1+1) 0 (fun _=>none):=hmo.keep1 (bB.out.block _ Ua U2);clear fG bE dW
   go_loopw [43] (fun i wr=>∃(k n:Nat) (fo:ByteArray->Option Int),k<=p.outs.length/\i = .int .i64 k/\n<=k/\Hid (Jz Tryz.prog 9 3 wr (wo.heap.size+1+1) n fo)/\Hid (∀s,onM fo s=Ka ((p.outs.take k).map (·.name)) s)/\Hid (W1.grownBy wr (some (wo.heap.size+1+1)))) (fun i _=>p.outs.length-(intOf i).toNat)
   case atStart=>exact⟨0,0,_,Np,rfl,Ns _,Nf hmo1,Nf (fun s=>by unfold onM Ka;simp),Nf ⟨rfl,rfl,rfl,Ns _,fun _ _ _=>rfl⟩⟩
   case round=>
    obtain⟨k,no,fo,hk,rfl,hn,hmw2,ww,om⟩:=hrel;have hgz2:=om.out.size;have dh:=Nd w wr (Kou gS om.out (fun b hb=>Uv) Ua);have rZ:Below (wo.heap.size+1) W0 wr:=Kou iQ om.out (fun b hb=>Uv) Ua;have fG:=Jdu rZ;have wZ:=Jfi rZ;have vY:=hmw2.out;have dW:=vY.lt
    by_cases am:k<p.outs.length
    ·have hx:p.outs[k]?=some p.outs[k]:=Ng am;have aj:p.outs[k]∈p.outs:=Nj am;have aP:p.outs.take (k+1)=p.outs.take k ++ [p.outs[k]]:=by rw [List.take_add_one,hx];rfl
     generalize p.outs[k]=x at hx aj aP;obtain⟨b,off,rfl,aH,⟨d0,d1,d2,d3⟩⟩:=(gL.later dh).get hx;have dT:=HOS.out x aj;have HOU:=Nf (by rw [aP,List.map_append];exact Jv3 ww.out:∀s,onM (upd fo x.name 1) s=Ka ((p.outs.take (k+1)).map (·.name)) s);clear hx aj aP ww
     go_wp2_with (first|(at_mapUpdate;go_loud (refine Jau rfl (.tmp 47) (.tmp 49) _ 177 rfl Tryz.underlying9 Tryz.underlying177 Tryz.underlying3 (wo.heap.size+1+1) no fo x.name 1 rfl (vY.keep1 (heap_alloc_old _ _ dW)) Ua rfl rfl dT Ua ?_;intro w2 cI aG;have kj:=Nf cI;have kr:=Nf aG;clear cI aG)))
     go_roundw
     case rel=>exact⟨k+1,no+1,_,Ua,Uw,Ua,kj,HOU,Nf (Qn om.out (Qn (World.grownBy_alloc wr _ _) kr.out))⟩
     case measure=>simp [intOf];try omega
    ·obtain rfl:k=p.outs.length:=Ua;have vZ:=ww.out;rw [List.take_length] at vZ;have HOU:=Nf vZ;clear ww vZ;have qn:=lt0 w wr
     go_wp2_with fail
     obtain⟨W2,rfl⟩:∃W2,W2=wr:=⟨wr,rfl⟩;have gZ:Jz Tryz.prog 9 3 W2 B n f:=eU.keep1 (rZ.block B Ua);have jH:Jaz Tryz.prog 9 W2 (wo.heap.size+1) nc fc:=ej.keep1 (om.out.block _ Ua U2);clear ej eU hmo hmo1 hmc pX hmw2 bB om eC hgz2 iQ rZ
     go_loopw [54] (fun i wr=>∃k:Nat,k<=p.eqs.length/\i = .int .i64 k/\Hid (Zg h k (p.eqs.drop k)=O)/\Below W2.heap.size W2 wr) (fun i _=>p.eqs.length-(intOf i).toNat)
     case atStart=>exact⟨0,Np,rfl,Nf (by rw [List.drop_zero];exact HO.out.symm),Nt⟩
     case round=>
      obtain⟨k,hk,rfl,aa,ab⟩:=hrel;have aC:=Nd w wr (Jn dh ab Ua);have hc:=Jg ab;have eh:=Jf ab;have bu:=ab.size;have tL:=lt0 w wr;have wD:=ltA w 1 wr;have sh:=ltA w 1 W2;have hw3:w.heap.size+1<wr.heap.size+1+1:=Ua;have hw4:w.heap.size+1<wr.heap.size+1:=Ua;have hw5:w.heap.size<wr.heap.size+1+1:=Ua;have hw6:w.heap.size<wr.heap.size+1:=Ua
      by_cases am:k<p.eqs.length
      ·obtain⟨q,hx,-,hd⟩:=Kl am;obtain⟨b,off,B1,n1,B2,n2,rfl,aH,⟨g0,g1,g2,g3,g4,g5,g6,g7,g8,g9,s1,s2⟩⟩:=(bT.later aC).get hx;have hr:=aa.out;rw [hd,Zg,HH.out q] at hr;obtain⟨dn,gX,cM,gV,ju⟩:=jR.out q (Ni hx);have kz:=HAG.out;obtain⟨ck,cs,bO⟩:∃ck cs,J9 L q.name=(ck,cs):=⟨_,_,rfl⟩;have sa:=lo.out q.name;rw [bO] at hr sa;dsimp only at hr sa;rw [<-kz.reach,<-Jsc kz,<-kz cs,<-kz q.name,<-HOU.out q.name] at hr;have mK:=Nf bO;have oq:=gZ.bel ab;have hmkr:=jH.bel ab;have hmor:=vY.bel ab;have hZ:=fun W hb=>Jgc q.e B2 n2 B n f W (s2.later hb) cM gV ju (oq.bel hb);have sb:=fun W hb=>Jwk B n f q.e B2 n2 W (s2.later hb) cM gV ju (oq.bel hb);obtain⟨vt,eQ⟩:∃b,b=q.e.torn (onM f):=⟨_,rfl⟩;obtain⟨vr,jg⟩:∃b,b=q.e.reach (onM f):=⟨_,rfl⟩;obtain⟨vc,mW⟩:∃b,(ck != 0)=b:=⟨_,rfl⟩;obtain⟨vd,zW⟩:∃b,(q.delay != 0)=b:=⟨_,rfl⟩;obtain⟨vl,ng⟩:∃b,onM f cs=b:=⟨_,rfl⟩;obtain⟨vo,hvo⟩:∃b,onM fo q.name=b:=⟨_,rfl⟩;obtain⟨vs,nb⟩:∃b,onM f q.name=b:=⟨_,rfl⟩;rw [<-eQ] at sb;rw [<-jg] at hZ;rw [<-eQ,<-jg,mW,zW,ng,hvo,nb] at hr;unfold onM at ng hvo nb;unfold exV at hZ sb;clear eQ jg hd hx aa gX cM gV ju kz s1 s2 bO
       rcases Jud vt vc vl vd vr vo vs with ⟨rfl,rfl|rfl,rfl|rfl,hh⟩|⟨rfl,rfl,rfl,rfl|rfl,rfl|rfl,hh⟩|⟨rfl,⟨rfl,rfl⟩|rfl,rfl,rfl,rfl|rfl,hh⟩|⟨rfl,⟨rfl,rfl⟩|rfl,⟨rfl,rfl⟩|rfl,rfl,rfl,hh⟩|⟨rfl,⟨rfl,rfl⟩|rfl,⟨rfl,rfl⟩|rfl,⟨rfl,rfl⟩|rfl,hh⟩
       iterate 16
        ·rw [hh,if_pos rfl] at hr;have HR:=Nf hr;clear hr hh
         go_wp2_with (first
          | (at_lookup;go_loud (refine Jel rfl (.tmp 59) (.tmp 61) 205 rfl Tryz.underlying9 Tryz.underlying205 (Jcf (0,⟨#[]⟩)) (Jfz _) (wo.heap.size+1) nc fc q.name rfl (hmkr.bel Jb) rfl dn ?_;rw [jy.out q.name,mK.out];unfold Jcf))
          | (go_at_call 141;go_loud (refine(hZ _ Jb).mono ?_;rintro r w1 ⟨rfl,ac⟩;have ak:=Jg ac;have db:=Jf ac;have af:wr.heap.size+2<=w1.heap.size:=L6;have dG:=lt0 w w1;have cA:=ltA w 1 w1;have kh:=lt0 wr w1;have ly:=ltA wr 1 w1))
          | (at_lookup;go_loud (refine Qb rfl (.tmp 72) (.tmp 74) 177 rfl Tryz.underlying9 Tryz.underlying177 Tryz.underlying3 (Kj _) (wo.heap.size+1+1) no fo q.name rfl (hmor.bel Jb) rfl dn ?_))
          | (at_lookup;go_loud (refine Jdr Gp (.tmp 78) (.tmp 80) 256 rfl Tryz.underlying9 Tryz.underlying256 Tryz.underlying3 (Kj _) B n f q.name rfl (oq.bel Jb) rfl dn ?_))
          | (at_lookup;go_loud (refine Jdr Gp (.tmp 93) (.tmp 95) 256 rfl Tryz.underlying9 Tryz.underlying256 Tryz.underlying3 (Kj _) B n f cs rfl (oq.bel Jb) rfl sa ?_))
          | (go_at_call 142;go_loud (refine(sb _ Jb).mono ?_;rintro r w3 ⟨rfl,aM⟩;have kE:=Jg aM;have tx:=Jf aM;have hz3':wr.heap.size+2<=w3.heap.size:=(by have:=aM.size;(try simp at this);omega);have hye:=lt0 w w3;have rU:=ltA w 1 w3;have ox:=lt0 wr w3;have iZ:=ltA wr 1 w3)))
         refine Nv (v:= .agg #[.int .i64 3,.int .i64 (k:Int),.int .i64 23]) Gl rfl ⟨by rw [<-HR.out],?_⟩
         (repeat refine Jh ?_)
         exact Km
       iterate 8
        ·rw [hh,if_neg Uh] at hr;have HR:=Nf hr;clear hr hh
         go_wp2_with (first
          | (at_lookup;go_loud (refine Jel rfl (.tmp 59) (.tmp 61) 205 rfl Tryz.underlying9 Tryz.underlying205 (Jcf (0,⟨#[]⟩)) (Jfz _) (wo.heap.size+1) nc fc q.name rfl (hmkr.bel Jb) rfl dn ?_;rw [jy.out q.name,mK.out];unfold Jcf))
          | (go_at_call 141;go_loud (refine(hZ _ Jb).mono ?_;rintro r w1 ⟨rfl,ac⟩;have ak:=Jg ac;have db:=Jf ac;have af:wr.heap.size+2<=w1.heap.size:=L6;have dG:=lt0 w w1;have cA:=ltA w 1 w1;have kh:=lt0 wr w1;have ly:=ltA wr 1 w1))
          | (at_lookup;go_loud (refine Qb rfl (.tmp 72) (.tmp 74) 177 rfl Tryz.underlying9 Tryz.underlying177 Tryz.underlying3 (Kj _) (wo.heap.size+1+1) no fo q.name rfl (hmor.bel Jb) rfl dn ?_))
          | (at_lookup;go_loud (refine Jdr Gp (.tmp 78) (.tmp 80) 256 rfl Tryz.underlying9 Tryz.underlying256 Tryz.underlying3 (Kj _) B n f q.name rfl (oq.bel Jb) rfl dn ?_))
          | (at_lookup;go_loud (refine Jdr Gp (.tmp 93) (.tmp 95) 256 rfl Tryz.underlying9 Tryz.underlying256 Tryz.underlying3 (Kj _) B n f cs rfl (oq.bel Jb) rfl sa ?_))
          | (go_at_call 142;go_loud (refine(sb _ Jb).mono ?_;rintro r w3 ⟨rfl,aM⟩;have kE:=Jg aM;have tx:=Jf aM;have hz3':wr.heap.size+2<=w3.heap.size:=(by have:=aM.size;(try simp at this);omega);have hye:=lt0 w w3;have rU:=ltA w 1 w3;have ox:=lt0 wr w3;have iZ:=ltA wr 1 w3)))
         go_roundw
         case rel=>exact⟨k+1,Ua,Uw,HR,Jb⟩
         case measure=>simp [intOf];try omega
      ·obtain rfl:k=p.eqs.length:=Ua;have hr:=aa.out;rw [Nn,Zg] at hr;have HR:=Nf hr;clear hr aa
       go_wp2_with fail
       refine Nv (v:= .agg #[.int .i64 0,.int .i64 0,.int .i64 0]) Gl rfl ⟨by rw [<-HR.out],?_⟩
       (repeat refine Jh ?_)
       exact Km
end Go.Proofs.YtdgjplldlfeolaaGreatDoor
