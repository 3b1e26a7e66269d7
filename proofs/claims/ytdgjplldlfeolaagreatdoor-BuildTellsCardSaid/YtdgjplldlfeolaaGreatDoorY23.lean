/- Lemmas. -/
import Derived.Test.YtdgjplldlfeolaaGreatDoorMac
import Derived.Test.YtdgjplldlfeolaaGreatDoorY18
import Derived.Test.YtdgjplldlfeolaaGreatDoorY00
import Derived.Test.YtdgjplldlfeolaaGreatDoorY08
import Derived.Test.YtdgjplldlfeolaaGreatDoorY10
import Derived.WalkMore
import Derived.Test.YtdgjplldlfeolaaGreatDoorY04
import Derived.Test.YtdgjplldlfeolaaGreatDoorY02
import Derived.Test.YtdgjplldlfeolaaGreatDoorY09
import Derived.Deep.RegionLaw
set_option linter.unusedVariables false
set_option linter.unusedSimpArgs false
set_option maxRecDepth 100000
set_option maxHeartbeats 64000000
namespace Go.Proofs.YtdgjplldlfeolaaGreatDoor
open Go.RowKit Go.Sort
theorem Jfr (p:Pr) (a:PrA) (w:World) (hg:Ql w) (hp:Kr w p a) (aw:Ke5 p) (n1:p.ins.length<=1000000) (n2:p.outs.length<=1000000) (n3:p.locals.length<=1000000) (n4:p.eqs.length<=1000000) :
  Calls Tryz.prog 106 #[prV p a] w fun r w'=>(∃v,r = .returned (.tuple #[v,fV (Kot p).2])/\w'.ownsRow w.heap.size 3 1 v (Kot p).1.length ((Kot p).1.map (.int .i64)))/\Below w.heap.size w w':=by
 by_cases aN:Qg p=(0,0,0)
 ·have h:=Jql p a w hg hp aw n1 n2 n3 n4 aN;rw [show Kot p=Jdx p by unfold Kot;rw [if_pos aN,Jtf aN]];exact h
 ·refine(Jqt p a w hg hp n1 n2 n3 n4 aN).mono ?_;rintro r w' ⟨rfl,hb⟩;rw [show Kot p=([],Qg p) by unfold Kot;rw [if_neg aN]];exact⟨⟨.slice none 0 0,rfl,Nw⟩,hb⟩
theorem Yq.take {w:World} {l:List Int} {A:Option Addr} {cap:Nat} (h:Yq w l A cap) (k:Nat):Yq w (l.take k) A cap:=
 ⟨by have:=h.1;simp;omega,h.2.1,fun hl=>by
  obtain⟨b,off,hA,hr⟩:=h.2.2 (by simp at hl;omega);exact⟨b,off,hA,fun j x hj=>hr j x (by rw [List.getElem?_take] at hj;split at hj <;> simp_all)⟩⟩
theorem Je8 {e:Ex} (h:e.formed=true) (hk:e.kind=7):e.sub.length=2:=by
 exact Ube
theorem Jgc (e:Ex) (A:Option Addr) (cap:Nat) (B n:Nat) (f:ByteArray->Option Int) (w:World) (he:Jt w e A cap) (hf:e.formed=true) (aw:e.OK) (hz:e.size<=1000000) (hm:Jz Tryz.prog 9 3 w B n f) :
  Calls Tryz.prog 141 #[.map (some B),exV e A cap] w fun r w'=>r = .returned (.bool (e.reach (onM f)))/\Below w.heap.size w w':=by
 obtain⟨R,hR⟩:∃R,R=e.reach (onM f):=⟨_,rfl⟩;rw [<-hR];have vi:=Nf (by rw [hR];simp [Ex.reachL]:Ex.reachL (onM f) [e]=R);clear hR;unfold exV
 go_enter Tryz.func141,Tryz.ntmps141
 go_wp2_with fail
 go_step3
 go_wp2_with fail
 go_step3
 go_wp2_with fail
 refine Jo fun W0 ag=>?_;have ax:=Nd w W0 Uz
 have jx:Jca w W0 w.heap.size 73 [e] (some ⟨w.heap.size+1,0,none⟩) 1:=by
  refine⟨[(A,cap)],rfl,fun j x a hx ha=>?_,?_⟩
  ·match j with
   | 0=>
     obtain rfl:e=x:=Do;obtain rfl:(A,cap)=a:=by simpa using ha
     exact he
   | j+1=>simp at hx
  ·rw [ag];have:=World.ownsRow_lit (base:=w.heap.size) (e:=73) (size:=4) (w.alloc (.cells #[.int .i64 e.kind,.int .i32 e.n,.string e.name,.slice A e.sub.length cap] 73)) #[.int .i64 e.kind,.int .i32 e.n,.string e.name,.slice A e.sub.length cap] 1 Uh Uo rfl;simpa [Ya,exC] using this
 have zb:∀x∈[e],x.formed=true/\x.OK:=fun x hx=>by
  obtain rfl:x=e:=Do;exact⟨hf,aw⟩
 have HF0:=Nf zb;clear ag he hf aw zb
 go_loopg [5,6] (e.size) (fun gk todo met wr=>∃(st:List Ex) (m:Nat) (D:Option Addr) (dc:Nat),todo = .slice D m dc/\met = .bool false/\Hid (m=st.length)/\Ex.sizeL st<=gk/\gk<=1000000/\Hid (Ex.reachL (onM f) st=R)/\Hid (∀x∈st,x.formed=true/\x.OK)/\Hid (Jca w wr w.heap.size 73 st D dc)/\Below w.heap.size w wr)
 case atStart=>exact⟨[e],1,_,1,rfl,rfl,Nf rfl,by simp [Ex.sizeL],hz,vi,HF0,Nf jx,ax⟩
 case round=>
  obtain⟨st,m,D,dc,rfl,rfl,tX,hgs,hgk,aa,lz,cP,ab⟩:=hrel;have bu:=ab.size;have ej:=hm.bel ab
  rcases Jls st with rfl|⟨st,x,rfl⟩
  ·have eU:m=0:=by simpa using tX.out
   subst eU;have HR:=Nf (show false=R from aa.out);clear aa tX lz cP
   go_wp2_with fail
   (try rw [Exit.noGoto_ret])
   go_ret;exact⟨Jk HR.out,Jb⟩
  ·have eU:m=st.length+1:=by simpa using tX.out
   subst eU;obtain⟨b,A',cap',rfl,ac,aq,js,gN,dT,c0,c1,c2,c3,hst'⟩:=cP.out.pop;obtain⟨gW,jz⟩:=lz.out x Uh;have hr:=aa.out;rw [Ex.reachL_app,show Ex.reachL (onM f) [x]=x.reach (onM f) by simp [Ex.reachL],Ex.reach_eq] at hr
   have bC:Ex.sizeL st+(Ex.sizeL x.sub+1)<=gk:=by
    rw [Ex.sizeL_app] at hgs;simpa [Ex.sizeL,Ex.size_eq] using hgs
   have hfo':∀y∈st,y.formed=true/\y.OK:=fun y hy=>lz.out y Mx;have qU:x.name.size<=maxLen:=by cases x;simp only [Ex.OK] at jz;exact jz.2.2.1
   have hstl:=Ex.len_sizeL st;have sd:Ex.OKL x.sub:=by cases x;simp only [Ex.OK] at jz;exact jz.2.2.2
   have pM:st.length<=dc:=Ua;have hdc0:¬dc=0:=Ua;unfold maxLen at gN;obtain⟨ls,hl,kq,ae⟩:=hst';have HFO:=Nf hfo';have od:=Nf kq;have wJ:=Nf hl;clear aa tX lz cP hfo' hgs kq hl
   by_cases h0:0<(f x.name).getD 0
   ·rw [show onM f x.name=true by unfold onM;simpa using h0,Bool.true_or,Bool.or_true] at hr;have HR:=Nf hr;clear hr
    go_wp2_with (first|(at_lookup;go_loud (refine Qb rfl (.tmp 29) (.tmp 31) 256 rfl Tryz.underlying9 Tryz.underlying256 Tryz.underlying3 (Kj _) B n f x.name rfl (ej.bel Jb) rfl qU ?_)))
    (try rw [Exit.noGoto_ret])
    go_ret;exact⟨Jk HR.out,Jb⟩
   ·rw [show onM f x.name=false by unfold onM;simpa using h0,Bool.false_or] at hr
    by_cases hk:x.kind=7
    ·have ai:=Je8 gW hk
     obtain⟨y,z,qZ⟩:∃y z,x.sub = [y,z]:=by
      match h:x.sub,ai with
      | [y,z],_=>exact⟨y,z,rfl⟩
     rw [if_pos hk,qZ] at hr;have rU:y.formed=true:=Q9 gW y (by rw [qZ];simp);have hyok:y.OK:=Ex.OKL_mem sd y (by rw [qZ];simp);have hysz:y.size<=Ex.sizeL x.sub:=by rw [qZ];simp [Ex.sizeL]
     obtain⟨b2,o2,A2,cap2,rfl,e0,e1,e2,e3,oN⟩:=dT.get (by rw [qZ];rfl:x.sub[0]?=some y);rw [Nat.zero_mul,Nat.add_zero] at e0 e1 e2 e3;have e0':=Ja ab e0;have e1':=Ja ab e1;have e2':=Ja ab e2;have e3':=Ja ab e3;have hb2w:b2<wr.heap.size:=Nu e0';have tk:(x.kind == 7)=true:=Lq;have eb:0<x.sub.length:=Ua;have HR:=Nf hr;have HY:=Nf qZ;clear hr hk qZ ai e0 e1 e2 e3
     go_wp2_with (first|(at_lookup;go_loud (refine Qb rfl (.tmp 29) (.tmp 31) 256 rfl Tryz.underlying9 Tryz.underlying256 Tryz.underlying3 (Kj _) B n f x.name rfl (ej.bel Jb) rfl qU ?_))|(at_builtin;go_loud (refine K6 rfl (.tmp 38) (.tmp 43) 71 rfl w.heap.size 73 _ 4 56 Tryz.underlying71 Jon rfl Ua (.slice (some ⟨b,0,none⟩) st.length dc) st.length (Ya st ls) _ 1 1 (exC y (A2,cap2)) rfl (Js (Js ae)) rfl ⟨rfl,fun _=>⟨_,_,rfl,fun j u hj=>by rw [Nat.zero_add];exact(Qo Uh).trans Gm⟩⟩ (by simp [exC,Value.oneCell']) Ua Ua Ui ?_;intro v9 w9 dL nh;have hz9:=nh.size;obtain⟨A9,c9,rfl,it,iu⟩:=Jv dL)))
     go_roundg (gk-1)
     case measure=>omega
     case rel=>
      refine⟨st ++ [y],st.length+1,A9,c9,by first|rfl|simp,rfl,Nf Uh,?_,Ua,?_,?_,?_,Jb⟩
      ·rw [Ex.sizeL_app];simp only [Ex.sizeL];exact Ua
      ·refine Nf ?_;rw [Ex.reachL_app,<-HR.out];simp [Ex.reachL,Ex.reachF]
      ·refine Nf fun u hu=>?_
       rcases List.mem_append.1 hu with h1|h1
       ·exact HFO.out u h1
       ·obtain rfl:u=y:=Lk;exact⟨rU,hyok⟩
      ·refine Nf (Jca.push (sub:=[y]) (ms:=[(A2,cap2)]) wJ.out od.out rfl (fun j u a hu ha=>?_) (by simpa [Ya] using dL))
       match j with
       | 0=>
         obtain rfl:y=u:=by simpa using hu
         obtain rfl:(A2,cap2)=a:=by simpa using ha
         exact oN
       | j+1=>simp at hu
    ·rw [if_neg hk] at hr;have tk:(x.kind == 7)=false:=Lq;obtain⟨ms,iw,cI,kV⟩:=dT.lies;have HR:=Nf hr;have uO:=Nf iw;have HM3:=Nf kV;have kj:=Nf cI;have lB:=Ex.len_sizeL x.sub;clear hr hk iw cI kV
     go_wp2_with (first|(at_lookup;go_loud (refine Qb rfl (.tmp 29) (.tmp 31) 256 rfl Tryz.underlying9 Tryz.underlying256 Tryz.underlying3 (Kj _) B n f x.name rfl (ej.bel Jb) rfl qU ?_))|(at_builtin;go_loud (refine K6 rfl (.tmp 24) (.tmp 26) 71 rfl w.heap.size 73 _ 4 56 Tryz.underlying71 Jon rfl Ua (.slice (some ⟨b,0,none⟩) st.length dc) st.length (Ya st ls) A' x.sub.length cap' (Ya x.sub ms) rfl (Js ae) rfl (kj.out.moved Jb) (Jox _ _) Ua Ua Ui ?_;intro v9 w9 dL nh;have hz9:=nh.size;obtain⟨A9,c9,rfl,it,iu⟩:=Jv dL)))
     go_roundg (gk-1)
     case measure=>omega
     case rel=>
      refine⟨st ++ x.sub,st.length+x.sub.length,A9,c9,by first|rfl|simp,rfl,Nf Uh,?_,Ua,?_,?_,?_,Jb⟩
      ·rw [Ex.sizeL_app];exact Ua
      ·refine Nf ?_;rw [Ex.reachL_app,<-HR.out]
      ·refine Nf fun u hu=>?_
       rcases List.mem_append.1 hu with h1|h1
       ·exact HFO.out u h1
       ·exact⟨Q9 gW u h1,Ex.OKL_mem sd u h1⟩
      ·exact Nf (Jca.push wJ.out od.out uO.out HM3.out dL)
theorem Jr6 (p:Pr) (a:PrA) (w:World) (hg:Ql w) (hp:Kr w p a) (aw:Ke5 p) (n1:p.ins.length<=1000000) (n2:p.outs.length<=1000000) (n3:p.locals.length<=1000000) (n4:p.eqs.length<=1000000) (aS:(Kot p).2≠(0,0,0)) :
  Calls Tryz.prog 140 #[prV p a] w fun r w'=>r = .returned (.tuple #[.map none,fV (Kot p).2])/\Below w.heap.size w w':=by
 have dY:=fun W h=>Jfr p a W (hg.later h) (hp.later h) aw n1 n2 n3 n4;clear hg aw;obtain⟨A1,c1,A2,c2,A3,c3,A4,c4⟩:=a;unfold prV fV at *;dsimp only at *;generalize Kot p=O at *;obtain⟨l,f1,f2,f3⟩:=O;dsimp only at *
 have mA:(f1 == 0 && f2 == 0 && f3 == 0)=false:=by
  exact Ua9
 have dp:∀w,(Op.equalIn 10000 32 (.agg #[.int .i64 f1,.int .i64 f2,.int .i64 f3]) (.agg #[.int .i64 0,.int .i64 0,.int .i64 0])).run Tryz.prog w = .ok false w:=fun w=>by rw [Zr,mA]
 have fM:Tryz.prog.eqGuardType Tryz.prog.depth 32=false:=Ue;clear aS mA hp
 go_enter Tryz.func140,Tryz.ntmps140
 go_wp2_with (first|(go_at_call 106;go_loud (refine(dY _ Jb).mono ?_;rintro r wo ⟨⟨vo,rfl,ay⟩,cW⟩;obtain⟨Ao,co,rfl,ln,jm⟩:=Jv ay;have jY:=Jg cW;have lz:=Jf cW;have jB:w.heap.size+2<=wo.heap.size:=Ge;have nY:=lt0 w wo;have jA:=ltA w 1 wo;clear ay)))
 go_region
 all_goals
  go_wp2_with fail
  refine Nv (v:= .tuple #[.map none,.agg #[.int .i64 f1,.int .i64 f2,.int .i64 f3]]) (by simp [results,Tryz.results140,go_sem, *]) rfl ⟨rfl,?_⟩
  (repeat refine Jh ?_)
  exact Km
theorem Jfo {p:Pr} (aN:Qg p=(0,0,0)) (aw:Ke5 p):∀q∈p.eqs,q.name.size<=maxLen/\q.name.toList.isEmpty=false/\q.e.formed=true/\q.e.OK/\q.e.size<=1000000:=fun q hq=>by
 have hb:=(X4 (Xp (Xk aN).1).1).2.2.2.2 q hq;obtain⟨h1,h2,h3,_⟩:=Jaq hb;simp only [eqB,Bool.and_eq_true] at hb;exact⟨Uo,Jbx hb.1.1,h2,(aw.eqs q hq).2.2.2,Ua⟩
theorem Jti (p:Pr) (a:PrA) (w:World) (hg:Ql w) (hp:Kr w p a) (aw:Ke5 p) (n1:p.ins.length<=1000000) (n2:p.outs.length<=1000000) (n3:p.locals.length<=1000000) (n4:p.eqs.length<=1000000) (jM:(Kot p).2=(0,0,0)) :
  Calls Tryz.prog 140 #[prV p a] w fun r w'=>(∃(B n:Nat) (f:ByteArray->Option Int),r = .returned (.tuple #[.map (some B),fV (0,0,0)])/\w.heap.size<=B/\Jz Tryz.prog 9 3 w' B n f/\Jc7 f (Qs p).1)/\Below w.heap.size w w':=by
 obtain⟨LF,nl⟩:∃L,L=(Qs p).1:=⟨_,rfl⟩;have hL:LF=Xj p.eqs (Jbj p.eqs) (Kot p).1:=by rw [nl];unfold Qs;rw [if_pos jM]
 rw [<-nl];obtain⟨aN,ai,fm⟩:=Yg jM;have dn:=Jfo aN aw;have dY:=fun W h=>Jfr p a W (hg.later h) (hp.later h) aw n1 n2 n3 n4;obtain⟨l,hl⟩:∃l,Kot p=(l,(0,0,0)):=⟨(Kot p).1,by rw [<-jM]⟩;rw [hl] at dY hL fm ai;dsimp only at dY hL fm ai;have HL:=Nf hL;have HG:=Nf fm;have jR:=Nf dn;clear nl hL jM aN dn fm hl hg aw;have dp:∀w,(Op.equalIn 10000 32 (.agg #[.int .i64 0,.int .i64 0,.int .i64 0]) (.agg #[.int .i64 0,.int .i64 0,.int .i64 0])).run Tryz.prog w = .ok true w:=fun w=>So;have fM:Tryz.prog.eqGuardType Tryz.prog.depth 32=false:=Ue;have gI:=@run_makeMap Tryz.prog;have bT:=hp.eqs;have cG:=hp.eqs.len;obtain⟨A1,c1,A2,c2,A3,c3,A4,c4⟩:=a;unfold maxLen at cG;unfold prV fV at *;dsimp only at *;obtain⟨fT,fU⟩:=cG;clear hp
 go_enter Tryz.func140,Tryz.ntmps140
 go_wp2_with (first|(go_at_call 106;go_loud (refine(dY _ Jb).mono ?_;rintro r wo ⟨⟨vo,rfl,ay⟩,cW⟩;obtain⟨Ao,co,rfl,ln,jm⟩:=Jv ay;have lr:=Yq.of_own ay;have jY:=Jg cW;have lz:=Jf cW;have jB:w.heap.size+2<=wo.heap.size:=Ge;have nY:=lt0 w wo;have jA:=ltA w 1 wo;clear ay)))
 refine Jo fun W0 ag=>?_;have ax:=Nd w W0 L1;have hmb1:w.heap.size+1<wo.heap.size+1:=Ua;have hmb0:w.heap.size<wo.heap.size+1:=Ua;have hmb3:wo.heap.size<wo.heap.size+1:=Ua;have hmb2:wo.heap.size+1<W0.heap.size:=Vu
 have eU:Jz Tryz.prog 9 3 W0 (wo.heap.size+1) 0 (fun _=>none):=by
  rw [ag];have h1:=Jz.made (P:=Tryz.prog) (k:=9) (e:=3) (wo.alloc (.cells #[.int .i64 0,.int .i64 0,.int .i64 0] 32));exact Lk
 have rY:=Nd wo W0 L1;have x4:=Nb W0 w.heap.size 4 (.slice A4 p.eqs.length c4) Uf;have f0:=Na W0 (w.heap.size+1) 0 0 Uf;have f1:=Na W0 (w.heap.size+1) 1 0 Uf;have f2:=Na W0 (w.heap.size+1) 2 0 Uf;have v0:=Na W0 wo.heap.size 0 0 Uf;have v1:=Na W0 wo.heap.size 1 0 Uf;have v2:=Na W0 wo.heap.size 2 0 Uf;have z0:=Nc W0 (w.heap.size+1) 0 Uf;have z1:=Nc W0 (w.heap.size+1) 1 Uf;have z2:=Nc W0 (w.heap.size+1) 2 Uf;have bI:=lr.1;unfold maxLen at jm;clear ag jY lz jB nY jA dY gI dp fM cW
 go_loopw [24] (fun i wr=>∃(k n:Nat) (f:ByteArray->Option Int),k<=p.eqs.length/\i = .int .i64 k/\n<=k/\Hid (Jz Tryz.prog 9 3 wr (wo.heap.size+1) n f)/\Hid (Jc7 f (Jbj (p.eqs.take k)))/\Hid (W0.grownBy wr (some (wo.heap.size+1)))) (fun i _=>p.eqs.length-(intOf i).toNat)
 case atStart=>exact⟨0,0,_,Np,rfl,Ns _,Nf eU,Nf Juq,Nf ⟨rfl,rfl,rfl,Ns _,fun _ _ _=>rfl⟩⟩
 case round=>
  obtain⟨k,n,f,hk,rfl,hn,hm,kz,bB⟩:=hrel;have eC:=bB.out.size;have dh:=Nd w wr (Kou ax bB.out (fun b hb=>Uv) Ua);have iQ:Below (wo.heap.size+1) W0 wr:=Kou (Below.refl _ W0) bB.out (fun b hb=>Uv) Ua;have fG:=Jdu iQ;have wZ:=Jfi iQ;have ej:=hm.out;have dW:=hm.out.lt;have qn:=lt0 w wr
  by_cases am:k<p.eqs.length
  ·obtain⟨q,hx,-,hd⟩:=Kl am;obtain⟨b,off,B1,n1,B2,n2,rfl,aH,⟨g0,g1,g2,g3,g4,g5,g6,g7,g8,g9,s1,s2⟩⟩:=(bT.later dh).get hx;have jk:=Jlf p.eqs hx;obtain⟨dn,gX,_⟩:=jR.out q (Ni hx);clear hd hx
   cases ek:(q.delay == 2)
   ·rw [ek,if_neg Uh] at jk;have HA:=Nf (by rw [jk];exact kz.out:Jc7 f (Jbj (p.eqs.take (k+1))));clear jk gX
    go_wp2_with fail
    go_roundw
    case rel=>exact⟨k+1,n,f,Ua,Uw,Ua,Nf (ej.keep1 (heap_alloc_old _ _ dW)),HA,Nf (Qn bB.out (World.grownBy_alloc wr _ _))⟩
    case measure=>simp [intOf];try omega
   ·rw [ek,if_pos rfl] at jk;have HA:=Nf (by rw [jk];exact Jlu kz.out gX:Jc7 (upd f q.name 1) (Jbj (p.eqs.take (k+1))));clear jk gX
    go_wp2_with (first|(at_mapUpdate;go_loud (refine Jau rfl (.tmp 31) (.tmp 33) _ 256 rfl Tryz.underlying9 Tryz.underlying256 Tryz.underlying3 (wo.heap.size+1) n f q.name 1 rfl (ej.keep1 (heap_alloc_old _ _ dW)) Ua rfl rfl dn Ua ?_;intro w2 cI aG;have kj:=Nf cI;have kr:=Nf aG;clear cI aG)))
    go_roundw
    case rel=>exact⟨k+1,n+1,_,Ua,Uw,Ua,kj,HA,Nf (Qn bB.out (Qn (World.grownBy_alloc wr _ _) kr.out))⟩
    case measure=>simp [intOf];try omega
  ·obtain rfl:k=p.eqs.length:=Ua;have vX:=kz.out;rw [List.take_length] at vX;have HAG:=Nf vX;clear kz vX
   go_wp2_with fail
   clear fG wZ ej dW qn dh iQ
   go_loopw [37] (fun i wr=>∃(k n:Nat) (f:ByteArray->Option Int) (out:List ByteArray),k<=l.length/\i = .int .i64 k/\n<=p.eqs.length+k/\Hid (Jz Tryz.prog 9 3 wr (wo.heap.size+1) n f)/\Hid (Jc7 f out)/\Hid (Xj p.eqs out (l.drop k)=LF)/\Hid (W0.grownBy wr (some (wo.heap.size+1)))) (fun i _=>l.length-(intOf i).toNat)
   case atStart=>exact⟨0,n,f,Jbj p.eqs,Np,rfl,Ua,hm,HAG,Nf (by rw [List.drop_zero];exact HL.out.symm),bB⟩
   case round=>
    clear HAG hm bB eC;obtain⟨k,n,f,out,hk,rfl,hn,hm,kz,aa,bB⟩:=hrel;have eC:=bB.out.size;have dh:=Nd w wr (Kou ax bB.out (fun b hb=>Uv) Ua);have iQ:Below (wo.heap.size+1) W0 wr:=Kou (Below.refl _ W0) bB.out (fun b hb=>Uv) Ua;have fG:=Jdu iQ;have wZ:=Jfi iQ;have ej:=hm.out;have dW:=hm.out.lt;have qn:=lt0 w wr;have hiw:=Nd wo wr (Kou rY bB.out (fun b hb=>Uv) Ua)
    by_cases am:k<l.length
    ·have hx:l[k]?=some l[k]:=Ng am;have hd:l.drop k=l[k] :: l.drop (k+1):=No am;generalize l[k]=j at hx hd;obtain⟨m,q,rfl,hq⟩:=HG.out k j hx;have yp:m<p.eqs.length:=(Nh hq).1;obtain⟨bi,oi,rfl,pU,di⟩:=(lr.later hiw).get hx;obtain⟨b,off,B1,m1,B2,m2,rfl,aH,⟨g0,g1,g2,g3,g4,g5,g6,g7,g8,g9,s1,s2⟩⟩:=(bT.later dh).get hq;obtain⟨dn,gX,cM,gV,ju⟩:=jR.out q (Ni hq);have hr:=aa.out;rw [hd,Xj,Int.toNat_natCast,hq] at hr;dsimp only at hr;rw [<-kz.out.reach] at hr;have hZ:=fun W h=>Jgc q.e B2 m2 (wo.heap.size+1) n f W (s2.later h) cM gV ju (ej.bel h);unfold exV at hZ;clear hd hx hq aa cM gV ju s1 g1 g2 g3 g4 g5
     cases eY:q.e.reach (onM f)
     ·rw [eY,if_neg Uh] at hr;have lv:=Nf eY;have HR:=Nf hr;clear eY hr gX
      go_wp2_with (first|(go_at_call 141;go_loud (refine(hZ _ Jb).mono ?_;rw [lv.out];rintro r w1 ⟨rfl,ac⟩;have ak:=Jg ac;have af:=ac.size;have bV:=lt0 w w1)))
      go_roundw
      case rel=>exact⟨k+1,n,f,out,Ua,Uw,Ua,Nf (ej.bel ac),kz,HR,Nf (Qn bB.out (Jat ac))⟩
      case measure=>simp [intOf];try omega
     ·rw [eY,if_pos rfl] at hr;have lv:=Nf eY;have HR:=Nf hr;have HA:=Nf (Jlu kz.out gX);clear eY hr gX
      go_wp2_with (first|(go_at_call 141;go_loud (refine(hZ _ Jb).mono ?_;rw [lv.out];rintro r w1 ⟨rfl,ac⟩;have ak:=Jg ac;have af:=ac.size;have bV:=lt0 w w1))|(at_mapUpdate;go_loud (refine Jau rfl (.tmp 49) (.tmp 55) _ 256 rfl Tryz.underlying9 Tryz.underlying256 Tryz.underlying3 (wo.heap.size+1) n f q.name 1 rfl (ej.bel ac) Ua rfl rfl dn Ua ?_;intro w2 cI aG;have kj:=Nf cI;have kr:=Nf aG;clear cI aG)))
      go_roundw
      case rel=>exact⟨k+1,n+1,_,out ++ [q.name],Ua,Uw,Ua,kj,HA,HR,Nf (Qn bB.out (Qn (Jat ac) kr.out))⟩
      case measure=>simp [intOf];try omega
    ·obtain rfl:k=l.length:=Ua;have hr:=aa.out;rw [Nn,Xj] at hr;have HR:=Nf hr;clear hr aa
     go_wp2_with fail
     go_region
     all_goals
      go_wp2_with fail
      refine Nv (v:= .tuple #[.map (some (wo.heap.size+1)),.agg #[.int .i64 0,.int .i64 0,.int .i64 0]]) (by simp [results,Tryz.results140,go_sem, *]) rfl ⟨⟨wo.heap.size+1,n,f,rfl,Ua,?_,by rw [<-HR.out];exact kz.out⟩,?_⟩
      ·refine ej.keep1 ?_
       (repeat first|rfl|refine(heap_setCell_other _ _ _ _ (by show wo.heap.size+1≠w.heap.size+1;omega)).trans ?_)
      ·(repeat refine Jh ?_)
       exact Km
end Go.Proofs.YtdgjplldlfeolaaGreatDoor
namespace Go.Proofs.YtdgjplldlfeolaaGreatDoor
open Go.RowKit
namespace Ex
mutual
def torn (g:ByteArray->Bool):Ex->Bool
 | mk k n s sub=>(decide (k=10) && reach g (mk k n s sub)) || tornL g sub
def tornL (g:ByteArray->Bool):List Ex->Bool
 | []=>false
 | x :: r=>torn g x || tornL g r
end
theorem torn_eq (g:ByteArray->Bool) (e:Ex):e.torn g=((decide (e.kind=10) && e.reach g) || tornL g e.sub):=by cases e;rw [torn];rfl
end Ex
def Jdp (t c l d r o s:Bool):Bool:=t || (c && l) || (d && r) || (o && s)
def Jen (p:Pr) (LF:List ByteArray) (q:Qe):Bool:=
 Jdp (q.e.torn (inL LF)) ((J9 (Je p) q.name).1 != 0) (inL LF (J9 (Je p) q.name).2) (q.delay != 0) (q.e.reach (inL LF)) (Ka (p.outs.map (·.name)) q.name) (inL LF q.name)
def Zg (h:Qe->Bool):Nat->List Qe->Int×Int×Int
 | _,[]=>(0,0,0)
 | k,q :: r=>if h q=true then(3,(k:Int),23) else Zg h (k+1) r
def Ks (p:Pr):Int×Int×Int:=if (Kot p).2=(0,0,0) then Zg (Jen p (Qs p).1) 0 p.eqs else(Kot p).2
theorem Jud (t c l d r o s:Bool) :
  (t=true/\(d=true\/d=false)/\(o=true\/o=false)/\Jdp t c l d r o s=true)\/
  (t=false/\c=true/\l=true/\(d=true\/d=false)/\(o=true\/o=false)/\Jdp t c l d r o s=true)\/
  (t=false/\((c=true/\l=false)\/c=false)/\d=true/\r=true/\(o=true\/o=false)/\Jdp t c l d r o s=true)\/
  (t=false/\((c=true/\l=false)\/c=false)/\((d=true/\r=false)\/d=false)/\o=true/\s=true/\Jdp t c l d r o s=true)\/
  (t=false/\((c=true/\l=false)\/c=false)/\((d=true/\r=false)\/d=false)/\((o=true/\s=false)\/o=false)/\Jdp t c l d r o s=false):=by
 revert t c l d r o s
 decide
theorem Jsc {f:ByteArray->Option Int} {l:List ByteArray} (h:Jc7 f l) (e:Ex):e.torn (onM f)=e.torn (inL l):=by rw [show onM f=inL l from funext h]
theorem Jsa {L:List Va} (h:∀v∈L,v.cn.size<=maxLen) (s:ByteArray):(J9 L s).2.size<=maxLen:=by
 unfold J9
 have:∀(l:List Va) (c:Int×ByteArray),(∀v∈l,v.cn.size<=maxLen)->c.2.size<=maxLen->(l.foldl (fun c v=>if s.data=v.name.data then(v.ck,v.cn) else c) c).2.size<=maxLen:=by
  intro l
  induction l with
  | nil=>exact fun c _ hc=>hc
  | cons v l ih=>
   intro c hl hc;rw [List.foldl_cons];refine ih _ (fun u hu=>hl u S0) ?_
   split
   ·exact hl v Uh
   ·exact hc
 exact this L _ h Sg
end Go.Proofs.YtdgjplldlfeolaaGreatDoor
namespace Go.Proofs.YtdgjplldlfeolaaGreatDoor
open Go.RowKit Go.Sort
theorem Jwk (B n:Nat) (f:ByteArray->Option Int) (e:Ex):∀(A:Option Addr) (cap:Nat) (w:World),Jt w e A cap->e.formed=true->e.OK->e.size<=1000000->Jz Tryz.prog 9 3 w B n f->
  Calls Tryz.prog 142 #[.map (some B),exV e A cap] w fun r w'=>r = .returned (.bool (e.torn (onM f)))/\Below w.heap.size w w':=by
 induction e using Ex.ind with
 | h e ih=>
 intro A cap w he hf aw hz hm;obtain⟨R,hR⟩:∃R,R=e.torn (onM f):=⟨_,rfl⟩;rw [<-hR];rw [Ex.torn_eq] at hR;have eY:=fun W h=>Jgc e A cap B n f W (he.later h) hf aw hz (hm.bel h);have hoks:Ex.OKL e.sub:=by cases e;simp only [Ex.OK] at aw;exact aw.2.2.2
 have hse:=Ex.size_eq e;have ot:=he.len;unfold maxLen at ot;obtain⟨hel1,hel2⟩:=ot;unfold exV at *
 by_cases hk:e.kind=10
 ·have tk:(e.kind == 10)=true:=Lq;rw [show decide (e.kind=10)=true by simpa using hk,Bool.true_and] at hR;clear hk
  cases hZ:e.reach (onM f)
  ·rw [hZ,Bool.false_or] at hR;have lv:=Nf hZ;have HB:=Nf (by rw [hR];rfl:Ex.tornL (onM f) (e.sub.drop 0)=R);clear hZ hR aw;exact Tl
  ·rw [hZ,Bool.true_or] at hR;have lv:=Nf hZ;have HR:=Nf hR.symm;clear hZ hR aw
   go_enter Tryz.func142,Tryz.ntmps142
   go_wp2_with (first|(go_at_call 141;go_loud (refine(eY _ Jb).mono ?_;rw [lv.out];rintro r wh ⟨rfl,dX⟩)))
   go_ret;exact⟨Jk HR.out,Jb⟩
 ·have tk:(e.kind == 10)=false:=Lq;rw [show decide (e.kind=10)=false by simpa using hk,Bool.false_and,Bool.false_or] at hR;have HB:=Nf (by rw [hR];rfl:Ex.tornL (onM f) (e.sub.drop 0)=R);clear hk hR aw eY;exact Tl
end Go.Proofs.YtdgjplldlfeolaaGreatDoor
namespace Go.Proofs.YtdgjplldlfeolaaGreatDoor
open Go.RowKit
theorem Jho {eqs:List Qe} (he:∀q∈eqs,q.name.toList.isEmpty=false):∀(l:List Int) (out:List ByteArray),(∀s∈out,s.toList.isEmpty=false)->∀s∈Xj eqs out l,s.toList.isEmpty=false
 | [],out,ho,s,hs=>ho s hs
 | j :: r,out,ho,s,hs=>by
  rw [Xj] at hs;refine Jho he r _ ?_ s hs
  cases hq:eqs[j.toNat]? with
  | none=>exact ho
  | some q=>
   dsimp only
   split
   ·intro x hx
    rcases List.mem_append.1 hx with h1|h1
    ·exact ho x h1
    ·obtain rfl:x=q.name:=Lk;exact he q (Ni hq)
   ·exact ho
theorem Jm6 {p:Pr} (h:Qw p=true):∀q∈p.eqs,q.name.toList.isEmpty=false:=fun q hq=>by
 have hb:=(X4 h).2.2.2.2 q hq;simp only [eqB,Bool.and_eq_true] at hb;exact Jbx hb.1.1
theorem Jj2 {p:Pr} (hO:(Kot p).2=(0,0,0)):∀s∈(Qs p).1,s.toList.isEmpty=false:=by
 have jn:=(Xp (Xk (Yg hO).1).1).1;unfold Qs;rw [if_pos hO];refine Jho (Jm6 jn) _ _ fun s hs=>?_;unfold Jbj at hs;rw [List.mem_map] at hs;obtain⟨q,hq,rfl⟩:=hs;exact Jm6 jn q (List.mem_filter.1 hq).1
theorem Jl2 {LF:List ByteArray} (h:∀s∈LF,s.toList.isEmpty=false) (s:ByteArray):inL LF s=Ka LF s:=by
 unfold inL
 cases hs:s.toList.isEmpty
 ·exact Uh
 ·have:Ka LF s=false:=Jb5.2 fun hm=>by rw [h s hm] at hs;cases hs
  rw [this];rfl
theorem Jhp {eqs:List Qe} : ∀(l:List Int) (out:List ByteArray),∀s∈out,s∈Xj eqs out l
 | [],out,s,hs=>hs
 | j :: r,out,s,hs=>by
  rw [Xj];refine Jhp r _ s ?_
  cases eqs[j.toNat]? with
  | none=>exact hs
  | some q=>
   dsimp only
   split
   ·exact List.mem_append.2 (.inl hs)
   ·exact hs
theorem Jc5 {eqs:List Qe} : ∀(l:List Int) (out:List ByteArray),∀s∈Xj eqs out l,s∈out\/∃(j:Int) (q:Qe) (o:List ByteArray),j∈l/\eqs[j.toNat]?=some q/\q.name=s/\q.e.reach (inL o)=true/\∀x∈o,x∈Xj eqs out l
 | [],out,s,hs=> .inl hs
 | j :: r,out,s,hs=>by
  rw [Xj] at hs
  cases hq:eqs[j.toNat]? with
  | none=>
   rw [hq] at hs
   rcases Jc5 r _ s hs with h|⟨j',q,o,h1,h2,h3,h4,h5⟩
   ·exact .inl h
   ·refine .inr ⟨j',q,o,by simp [h1],h2,h3,h4,?_⟩;rw [Xj,hq];exact h5
  | some q=>
   rw [hq] at hs;dsimp only at hs
   by_cases hr:q.e.reach (inL out)=true
   ·rw [if_pos hr] at hs
    rcases Jc5 r _ s hs with h|⟨j',q',o,h1,h2,h3,h4,h5⟩
    ·rcases List.mem_append.1 h with h|h
     ·exact .inl h
     ·have dw:s=q.name:=Vl;refine .inr ⟨j,q,out,Uh,hq,dw.symm,hr,fun x hx=>?_⟩;exact Jhp (j :: r) out x hx
    ·refine .inr ⟨j',q',o,by simp [h1],h2,h3,h4,?_⟩;rw [Xj,hq];dsimp only;rw [if_pos hr];exact h5
   ·rw [if_neg hr] at hs
    rcases Jc5 r _ s hs with h|⟨j',q',o,h1,h2,h3,h4,h5⟩
    ·exact .inl h
    ·refine .inr ⟨j',q',o,by simp [h1],h2,h3,h4,?_⟩;rw [Xj,hq];dsimp only;rw [if_neg hr];exact h5
namespace Ex
end Ex
theorem Jnt {p:Pr} (hO:(Kot p).2=(0,0,0)) {v:Va} (hv:v∈p.ins):inL (Qs p).1 v.name=false:=by
 have hc:=(Xk (Yg hO).1).1;have nl:=Jj2 hO;obtain⟨_,dV,_⟩:=Jbe hc;rw [Jl2 nl];refine Jb5.2 fun hm=>?_;have hE:(Qs p).1=Xj p.eqs (Jbj p.eqs) (Kot p).1:=by unfold Qs;rw [if_pos hO]
 rw [hE] at hm
 rcases Jc5 _ _ _ hm with h1|⟨j,x,o,h1,h2,h3,_⟩
 ·unfold Jbj at h1;rw [List.mem_map] at h1;obtain⟨x,hx,hn⟩:=h1;exact dV x (List.mem_filter.1 hx).1 (List.mem_map.2 ⟨v,hv,hn.symm⟩)
 ·exact dV x (Ni h2) (List.mem_map.2 ⟨v,hv,h3.symm⟩)
theorem Jin {h:Qe->Bool} : ∀(l:List Qe) (k:Nat),Zg h k l=(0,0,0)->∀q∈l,h q=false
 | [],_,_,q,hq=>by simp at hq
 | x :: r,k,hs,q,hq=>by
  rw [Zg] at hs
  by_cases hx:h x=true
  ·rw [if_pos hx] at hs;simp at hs
  ·rw [if_neg hx] at hs
   rcases List.mem_cons.1 hq with rfl|hq
   ·exact Do
   ·exact Jin r (k+1) hs q hq
theorem Jl6 {v:Va} (h:Ke v false=true):v.cn.toList.isEmpty=true:=by
 simp only [Ke,Bool.and_eq_true] at h;have h3:=h.2
 by_cases h0:v.ck=0
 ·rw [if_pos h0] at h3;exact h3
 ·rw [if_neg h0] at h3
  by_cases h1:v.ck=1\/v.ck=2
  ·rw [if_pos h1] at h3;simp at h3
  ·rw [if_neg h1] at h3;simp at h3
theorem Jhq {p:Pr} (hc:J7 p=(0,0,0)) {u v:Va} (hu:u∈Je p) (hv:v∈Je p) (hn:u.name=v.name):u=v:=by
 obtain⟨i,hi⟩:=List.getElem?_of_mem hu;obtain⟨j,hj⟩:=List.getElem?_of_mem hv;have:=(Xp hc).2.1 i j u v hi hj hn;subst this;rw [hi] at hj;injection hj
theorem Jsu {p:Pr} (h:Ks p=(0,0,0)):(Kot p).2=(0,0,0)/\(∀v∈p.ins ++ p.outs,inL (Qs p).1 v.name=false)/\∀v∈Je p,v.cn.toList.isEmpty=false->inL (Qs p).1 v.cn=false:=by
 unfold Ks at h
 by_cases hO:(Kot p).2=(0,0,0)
 ·rw [if_pos hO] at h;have aN:=(Yg hO).1;have hc:=(Xk aN).1;have jn:=(Xp hc).1;have kD:=jn;simp only [Qw,Bool.and_eq_true,List.all_eq_true] at kD;have hz:=Jin _ _ h;obtain⟨_,dV,dE⟩:=Jbe hc;refine⟨hO,fun v hv=>?_,fun v hv aS=>?_⟩
  ·rcases List.mem_append.1 hv with h1|h1
   ·exact Jnt hO h1
   ·have xo:v∈Je p:=by simp [Je,h1]
    rcases dE v xo with h2|⟨q,hq,qL⟩
    ·obtain⟨u,hu,gG⟩:=List.mem_map.1 h2;have:=Jhq hc (by simp [Je,hu]) xo gG;subst this;exact Jnt hO hu
    ·have hh:=hz q hq;unfold Jen Jdp at hh;simp only [Bool.or_eq_false_iff,Bool.and_eq_false_iff] at hh;rw [<-qL]
     rcases hh.2 with h3|h3
     ·exact absurd (Jbk.2 (List.mem_map.2 ⟨v,h1,qL.symm⟩)) (by rw [h3];simp)
     ·exact h3
  ·have hnin:v ∉ p.ins:=fun hi=>by rw [Jl6 (kD.1.1.1.2 v hi)] at aS;cases aS
   rcases dE v hv with h2|⟨q,hq,qL⟩
   ·obtain⟨u,hu,gG⟩:=List.mem_map.1 h2;have:=Jhq hc (by simp [Je,hu]) hv gG;subst this;exact absurd hu hnin
   ·obtain⟨v',hm,_,wg,bO,nk⟩:=Ja3 aN hq;have:=Jhq hc hm hv (wg.trans qL);subst this;have hh:=hz q hq;unfold Jen Jdp at hh;rw [bO] at hh;simp only [Bool.or_eq_false_iff,Bool.and_eq_false_iff] at hh
    rcases nk with ⟨_,h4⟩|⟨h4,_,_⟩
    ·rw [h4] at aS;cases aS
    ·rcases hh.1.1.2 with h5|h5
     ·exact absurd h5 (by simpa using h4)
     ·exact h5
 ·rw [if_neg hO] at h;exact absurd h hO
structure Ce where
 name:ByteArray
 ck:Int
 cn:ByteArray
 first:Int
def inC (l:List (Int×ByteArray)) (c:Int×ByteArray):Bool:=l.any fun d=>K9 d.1 d.2 c.1 c.2
theorem Jwh (l:List (Int×ByteArray)) (d c:Int×ByteArray):inC (l ++ [d]) c=(inC l c || K9 d.1 d.2 c.1 c.2):=by unfold inC;simp
theorem Jyj {c d:Int×ByteArray} (h:K9 c.1 c.2 d.1 d.2=true):c=d:=by
 obtain⟨h1,h2⟩:=Jdg.1 h;exact Prod.ext h1 (Jej h2)
theorem Jvf (c:Int×ByteArray):K9 c.1 c.2 c.1 c.2=true:=Jdg.2 ⟨rfl,rfl⟩
namespace Ex
mutual
def arrs:List (Int×ByteArray)->Ex->Int×ByteArray->List (Int×ByteArray)
 | l,mk k _ s sub,c=>arrsL (if k=7 then l ++ [c] else l) k s c 0 sub
def arrsL:List (Int×ByteArray)->Int->ByteArray->Int×ByteArray->Nat->List Ex->List (Int×ByteArray)
 | l,_,_,_,_,[]=>l
 | l,k,s,c,i,x :: r=>arrsL (arrs l x (K4 k s c i)) k s c (i+1) r
end
theorem arrs_eq (l:List (Int×ByteArray)) (e:Ex) (c:Int×ByteArray):e.arrs l c=arrsL (if e.kind=7 then l ++ [c] else l) e.kind e.name c 0 e.sub:=by cases e;rw [arrs];rfl
end Ex
def Jai (e:Ex):Int:=if e.kind=4 then W32 (-(match e.sub with|x :: _=>x.n | []=>0)) else e.n
def Xm (L:List Va) (q:Qe):Ce:=⟨q.name,(J9 L q.name).1,(J9 L q.name).2,Jai q.first⟩
def J0 (l:List Qe):List Qe:=l.filter (fun q=>q.delay != 0)
def Jad (L:List Va) (l:List Qe):List (Int×ByteArray):=l.foldl (fun m q=>q.e.arrs m (J9 L q.name)) []
def X3 (L:List Va):List (Int×ByteArray):=(0,⟨#[]⟩) :: L.flatMap fun v=>[(1,v.name),(2,v.name)]
def Jb6 (c:Int×ByteArray):Ce:=⟨⟨#[]⟩,c.1,c.2,0⟩
def Kaq (m:List (Int×ByteArray)) (l:List (Int×ByteArray)):List Ce:=(l.filter (inC m)).map Jb6
def Jq (p:Pr):List Ce:=(J0 p.eqs).map (Xm (Je p)) ++ Kaq (Jad (Je p) p.eqs) (X3 (Je p))
def Kf (p:Pr):List Ce×(Int×Int×Int):=if Ks p=(0,0,0) then if 16<(Jq p).length then([],(4,0,3)) else(Jq p,(0,0,0)) else([],Ks p)
def Jz7 (g:ByteArray->Int) (fl:Int×ByteArray->Int) (k n:Int) (s:ByteArray) (c:Int×ByteArray) (vs:List Int):Int:=
 if k=3 then g s
 else if k=4 then unF n (vs.getD 0 0)
 else if k=5 then Kak n (vs.getD 0 0) (vs.getD 1 0)
 else if k=6 then if vs.getD 0 0≠0 then vs.getD 1 0 else vs.getD 2 0
 else if k=7 then if fl c≠0 then vs.getD 1 0 else vs.getD 0 0
 else if k=8\/k=9 then vs.getD 0 0
 else if k=10 then if g s≠0 then vs.getD 0 0 else vs.getD 1 0
 else n
namespace Ex
mutual
def eval (g:ByteArray->Int) (fl:Int×ByteArray->Int):Ex->Int×ByteArray->Int
 | mk k n s sub,c=>Jz7 g fl k n s c (Jxk g fl k s c 0 sub)
def Jxk (g:ByteArray->Int) (fl:Int×ByteArray->Int):Int->ByteArray->Int×ByteArray->Nat->List Ex->List Int
 | _,_,_,_,[]=>[]
 | k,s,c,i,x :: r=>eval g fl x (K4 k s c i) :: Jxk g fl k s c (i+1) r
end
end Ex
def Kam (g:ByteArray->Int) (c:Int×ByteArray):Bool:=if c.1=1 then g c.2 != 0 else if c.1=2 then g c.2 == 0 else true
theorem Jxo {s t:ByteArray} : s.data=t.data<->s=t:=⟨fun h=>by ext1;exact h,fun h=>by rw [h]⟩
def Jb4 (L:List Va):Prop:=∀(i j:Nat) (u v:Va),L[i]?=some u->L[j]?=some v->u.name=v.name->i=j
theorem Jb4.tail {v:Va} {L:List Va} (h:Jb4 (v :: L)):Jb4 L/\∀u∈L,u.name≠v.name:=by
 refine⟨fun i j a b ha hb hn=>?_,fun u hu hn=>?_⟩
 ·have:=h (i+1) (j+1) a b (by simpa using ha) (by simpa using hb) hn;exact Ua
 ·obtain⟨i,hi⟩:=List.getElem?_of_mem hu;have:=h (i+1) 0 u v F9 rfl hn;exact Ua
theorem Jfn {L:List Va} {c:Int×ByteArray} : c∈L.flatMap (fun v=>[((1:Int),v.name),(2,v.name)])<->∃v∈L,c=(1,v.name)\/c=(2,v.name):=by
 simp [List.mem_flatMap]
theorem Jjk:∀ {L:List Va},Jb4 L->(L.flatMap fun v=>[((1:Int),v.name),(2,v.name)]).Pairwise (·≠·)
 | [],_=>Uh
 | v :: L,h=>by
  obtain⟨h1,h2⟩:=h.tail;rw [List.flatMap_cons,List.pairwise_append];refine⟨Uh,Jjk h1,fun a ha b hb=>?_⟩;obtain⟨u,hu,hb⟩:=Jfn.1 hb;have aS:=h2 u hu;simp only [List.mem_cons,List.not_mem_nil,or_false] at ha
  rcases ha with rfl|rfl <;> rcases hb with rfl|rfl <;> intro e <;> injection e with e1 e2
  ·exact aS e2.symm
  ·exact absurd e1 Ug
  ·exact absurd e1 Ug
  ·exact aS e2.symm
theorem Jsh {L:List Va} (h:Jb4 L):(X3 L).Pairwise (·≠·):=by
 unfold X3;rw [List.pairwise_cons];refine⟨fun b hb=>?_,Jjk h⟩;obtain⟨u,_,hb⟩:=Jfn.1 hb
 rcases hb with rfl|rfl <;> intro e <;> injection e with e1 e2 <;> exact absurd e1 Ug
def Jha (l:List Ce):Prop:=l.Pairwise fun a b=>a.name.toList.isEmpty=true->b.name.toList.isEmpty=true->(a.ck,a.cn)≠(b.ck,b.cn)
theorem Jn1 {m l:List (Int×ByteArray)} (h:l.Pairwise (·≠·)):Jha (Kaq m l):=by
 unfold Jha Kaq;rw [List.pairwise_map];exact(h.filter _).imp fun aS _ _=>aS
theorem Jo1 {p:Pr} (gG:Jb4 (Je p)) (hn:∀q∈p.eqs,q.name.toList.isEmpty=false):Jha (Jq p):=by
 unfold Jq Jha;rw [List.pairwise_append];refine⟨?_,Jn1 (Jsh gG),fun a ha b _ xp=>?_⟩
 ·rw [List.pairwise_map];refine List.Pairwise.imp_of_mem (R:=fun _ _=>True) ?_ (List.pairwise_of_forall fun _ _=>trivial);intro a b ha _ _ xp;have:=hn a (List.mem_filter.1 ha).1;rw [show(Xm (Je p) a).name=a.name from rfl,this] at xp
  cases xp
 ·obtain⟨q,hq,rfl⟩:=List.mem_map.1 ha;have:=hn q (List.mem_filter.1 hq).1;rw [show(Xm (Je p) q).name=q.name from rfl,this] at xp
  cases xp
namespace Ex
end Ex
def Yv (v a b:List (Int×Int)):List (Int×Int):=v ++ [(11,(a.length:Int)+1)] ++ a ++ [(10,(b.length:Int))] ++ b
def Jae (sl:ByteArray->Int) (fl:Int×ByteArray->Int) (k n:Int) (s:ByteArray) (c:Int×ByteArray) (ps:List (List (Int×Int))):List (Int×Int):=
 if k=3 then [(2,sl s)]
 else if k=4 then ps.getD 0 [] ++ [(8,n)]
 else if k=5 then ps.getD 0 [] ++ ps.getD 1 [] ++ [(9,n)]
 else if k=6 then Yv (ps.getD 0 []) (ps.getD 1 []) (ps.getD 2 [])
 else if k=7 then Yv [(4,fl c)] (ps.getD 1 []) (ps.getD 0 [])
 else if k=8\/k=9 then ps.getD 0 []
 else if k=10 then Yv [(2,sl s)] (ps.getD 0 []) (ps.getD 1 [])
 else [(1,n)]
namespace Ex
mutual
def gen (sl:ByteArray->Int) (fl:Int×ByteArray->Int):Ex->Int×ByteArray->List (Int×Int)
 | mk k n s sub,c=>Jae sl fl k n s c (genL sl fl k s c 0 sub)
def genL (sl:ByteArray->Int) (fl:Int×ByteArray->Int):Int->ByteArray->Int×ByteArray->Nat->List Ex->List (List (Int×Int))
 | _,_,_,_,[]=>[]
 | k,s,c,i,x :: r=>gen sl fl x (K4 k s c i) :: genL sl fl k s c (i+1) r
end
theorem gen_eq (sl:ByteArray->Int) (fl:Int×ByteArray->Int) (e:Ex) (c:Int×ByteArray):e.gen sl fl c=Jae sl fl e.kind e.n e.name c (genL sl fl e.kind e.name c 0 e.sub):=by cases e;rw [gen];rfl
theorem genL_len (sl:ByteArray->Int) (fl:Int×ByteArray->Int) (k:Int) (s:ByteArray) (c:Int×ByteArray):∀(r:List Ex) (i:Nat),(genL sl fl k s c i r).length=r.length
 | [],i=>by rw [genL];rfl
 | x :: r,i=>by rw [genL,Nl,Nl,genL_len sl fl k s c r]
theorem genL_get (sl:ByteArray->Int) (fl:Int×ByteArray->Int) (k:Int) (s:ByteArray) (c:Int×ByteArray):∀(r:List Ex) (i j:Nat) (x:Ex),r[j]?=some x->(genL sl fl k s c i r).getD j []=x.gen sl fl (K4 k s c (i+j))
 | [],i,j,x,h=>Lc
 | y :: r,i,0,x,h=>by simp at h;subst h;rw [genL];rfl
 | y :: r,i,j+1,x,h=>by
  rw [genL,show i+(j+1)=i+1+j from by omega];have:=genL_get sl fl k s c r (i+1) j x Vl;simpa using this
theorem choice_len (v a b:List (Int×Int)):(Yv v a b).length=v.length+a.length+b.length+2:=by unfold Yv;simp;omega
theorem gen_len (sl:ByteArray->Int) (fl:Int×ByteArray->Int) (e:Ex):∀c,(e.gen sl fl c).length<=3 * e.size:=by
 induction e using ind with
 | h e ih=>
  intro c
  have hs:∀(r:List Ex) (i:Nat),(∀x∈r,∀c,(x.gen sl fl c).length<=3 * x.size)->∀c,((genL sl fl e.kind e.name c i r).map List.length).sum<=3 * sizeL r:=by
   intro r
   induction r with
   | nil=>exact fun i _ c=>by rw [genL];simp [sizeL]
   | cons x r ihr=>
    intro i h c;have h1:=h x Uh (K4 e.kind e.name c i);have h2:=ihr (i+1) (fun y hy=>h y Mx) c;rw [genL,List.map_cons,List.sum_cons,sizeL];omega
  have h0:=hs e.sub 0 ih c;rw [gen_eq,size_eq];generalize genL sl fl e.kind e.name c 0 e.sub=ps at h0 ⊢
  have hd:(ps.getD 0 []).length+(ps.getD 1 []).length+(ps.getD 2 []).length<=(ps.map List.length).sum:=by
   match ps with
   | []=>simp
   | [a]=>simp
   | [a,b]=>simp
   | a :: b :: d :: r=>simp;omega
  unfold Jae;generalize ps.getD 0 []=a at hd ⊢;generalize ps.getD 1 []=b at hd ⊢;generalize ps.getD 2 []=d at hd ⊢
  repeat' split
  all_goals first|omega|(rw [choice_len];simp only [Nl,Nm];omega)|(rw [choice_len];omega)|(simp only [Nk,Nl,Nm];omega)
end Ex
def Xu (L:List Va) (s:ByteArray):Int:=(Qi L s).getD 0
def Jav:Nat->List Ce->Int×ByteArray->Int
 | _,[],_=>0
 | i,x :: r,d=>if x.name.toList.isEmpty=true/\K9 x.ck x.cn d.1 d.2=true then(i:Int) else Jav (i+1) r d
def Kg (l:List Ce) (d:Int×ByteArray):Int:=Jav 0 l d
def Qk (sl:ByteArray->Int) (c:Int×ByteArray) (x:List (Int×Int)):List (Int×Int):=
 if c.1=1 then [(2,sl c.2),(11,(x.length:Int))] ++ x else if c.1=2 then [(2,sl c.2),(8,2),(11,(x.length:Int))] ++ x else x
def Yh (sl:ByteArray->Int):Nat->List Va->List (Int×Int)
 | _,[]=>[]
 | i,v :: r=>[(6,(i:Int)),(3,sl v.name)] ++ Yh sl (i+1) r
def Zx (sl:ByteArray->Int):Nat->List Qe->List (Int×Int)
 | _,[]=>[]
 | k,q :: r=>[(4,(k:Int)),(3,sl q.name)] ++ Zx sl (k+1) r
def Zu (sl:ByteArray->Int) (fl:Int×ByteArray->Int) (L:List Va):Nat->List Qe->List (Int×Int)
 | _,[]=>[]
 | k,q :: r=>Qk sl (J9 L q.name) (q.e.gen sl fl (J9 L q.name) ++ [(5,(k:Int))]) ++ Zu sl fl L (k+1) r
def Ze (sl:ByteArray->Int):Nat->List Ce->List (Int×Int)
 | _,[]=>[]
 | k,c :: r=>Qk sl (c.ck,c.cn) [(1,1),(5,(k:Int))] ++ Ze sl (k+1) r
def Xd (sl:ByteArray->Int) (fl:Int×ByteArray->Int) (L:List Va) (eqs:List Qe):List Int->List (Int×Int)
 | []=>[]
 | j :: r=>(match eqs[j.toNat]? with|some q=>Qk sl (J9 L q.name) (q.e.gen sl fl (J9 L q.name) ++ [(3,sl q.name)])|none=>[]) ++ Xd sl fl L eqs r
def Xl (sl:ByteArray->Int):Nat->List Va->List (Int×Int)
 | _,[]=>[]
 | i,v :: r=>[(2,sl v.name),(7,(i:Int))] ++ Xl sl (i+1) r
def Xs (p:Pr):List (Int×Int):=
 Yh (Xu (Je p)) 0 p.ins ++ Zx (Xu (Je p)) 0 (J0 p.eqs) ++ Xd (Xu (Je p)) (Kg (Jq p)) (Je p) p.eqs (Kot p).1 ++
 Zu (Xu (Je p)) (Kg (Jq p)) (Je p) 0 (J0 p.eqs) ++ Ze (Xu (Je p)) (J0 p.eqs).length ((Jq p).drop (J0 p.eqs).length) ++ Xl (Xu (Je p)) 0 p.outs
def Xg (p:Pr):List (Int×Int)×(Int×Int×Int×Int×Int)×(Int×Int×Int):=
 if (Kf p).2=(0,0,0) then
  if 600<(Xs p).length then([],(0,0,0,0,0),(4,0,3))
  else(Xs p,((Je p).length,(Jq p).length,(Jq p).length,p.ins.length,p.outs.length),(0,0,0))
 else([],(0,0,0,0,0),(Kf p).2)
end Go.Proofs.YtdgjplldlfeolaaGreatDoor
namespace Go.Proofs.YtdgjplldlfeolaaGreatDoor
open Go.RowKit Go.Sort Go.Maps
theorem Jky (n:Nat) (h:n<=1000000):IntKind.i32.wrap (n:Int)=(n:Int):=Jbn Vx
theorem Jqp (n:Nat) (h:n<=1000000):IntKind.i32.wrap ((n:Int)+1)=(n:Int)+1:=Jbn Vx
theorem Kos.one {w:World} {base g:Nat} {x:Int×Int} (h:w.ownsRow base 122 2 (.slice (some ⟨g,0,none⟩) 1 1) 1 (cdC [x])):Kos w [x] (some ⟨g,0,none⟩) 1:=by
 obtain⟨A,cap,hv,aY⟩:=Kos.of_own (l:=[x]) h;injection hv with e1 e2 e3;subst e1 e3;exact aY
theorem X9.less {w w2:World} {l:List (Int×Int)} {r:Ending} {w':World} (h:X9 w2 l r w') (hb:Below w.heap.size w w2):X9 w l r w':=by
 obtain⟨⟨v,hr,ae⟩,aq⟩:=h;exact⟨⟨v,hr,K8 ae hb.size⟩,Jd hb aq⟩
theorem Jan {w:World} {ps:List Jbv} {c:Array Value} {t:TypeId} (hc:c=(ps.map Jbv.val).toArray) (hi:∀x∈ps,Kos w x.l x.A x.cap):Je1 (w.alloc (.cells c t)) ps (some ⟨w.heap.size,0,none⟩):=by
 refine⟨fun _=>⟨w.heap.size,0,rfl,fun k x hk=>?_⟩,fun x hx=>(hi x hx).later (Jc (Nt) _)⟩;rw [Nat.zero_add,Kw,hc,List.getElem?_toArray,List.getElem?_map,hk];exact Gp
theorem Jg5 (v a b:List (Int×Int)) (A1:Option Addr) (c1:Nat) (A2:Option Addr) (c2:Nat) (A3:Option Addr) (c3:Nat) (w:World) (h1:Kos w v A1 c1) (h2:Kos w a A2 c2) (h3:Kos w b A3 c3) (hl:v.length+a.length+b.length<=900000) :
  Calls Tryz.prog 120 #[.slice A1 v.length c1,.slice A2 a.length c2,.slice A3 b.length c3] w (X9 w (Yv v a b)):=by
 have t1:=Jqp a.length Ua;have t2:=Jky b.length Ua;have l2:=h2.1;have l3:=h3.1;have m2:=h2.2.1;have m3:=h3.2.1;unfold maxLen at m2 m3
 have ay:=fun(g1 g2:Nat) (W:World) (hb:Below w.heap.size w W) (dN:Kos W [(11,(a.length:Int)+1)] (some ⟨g1,0,none⟩) 1) (dR:Kos W [(10,(b.length:Int))] (some ⟨g2,0,none⟩) 1) (t:TypeId)=>
  Jc0 [⟨v,A1,c1⟩,⟨[(11,(a.length:Int)+1)],some ⟨g1,0,none⟩,1⟩,⟨a,A2,c2⟩,⟨[(10,(b.length:Int))],some ⟨g2,0,none⟩,1⟩,⟨b,A3,c3⟩] (some ⟨W.heap.size,0,none⟩) 5
   (W.alloc (.cells #[.slice A1 v.length c1,.slice (some ⟨g1,0,none⟩) 1 1,.slice A2 a.length c2,.slice (some ⟨g2,0,none⟩) 1 1,.slice A3 b.length c3] t))
   (Jan rfl fun x hx=>by
    simp only [List.mem_cons,List.not_mem_nil,or_false] at hx
    rcases hx with rfl|rfl|rfl|rfl|rfl
    ·exact h1.later hb
    ·exact dN
    ·exact h2.later hb
    ·exact dR
    ·exact h3.later hb)
   Gh Uh
 have gM:∀g1 g2:Nat,Qu [⟨v,A1,c1⟩,⟨[(11,(a.length:Int)+1)],some ⟨g1,0,none⟩,1⟩,⟨a,A2,c2⟩,⟨[(10,(b.length:Int))],some ⟨g2,0,none⟩,1⟩,⟨b,A3,c3⟩]=Yv v a b:=fun g1 g2=>by simp [Qu,Yv]
 simp only [gM] at ay;have jZ:=Nf ay;clear ay gM h1 h2 h3
 go_enter Tryz.func120,Tryz.ntmps120
 go_wp2_with (first
  | (go_at_call_of 103 (Value.int IntKind.i64 11);go_loud (refine(Jak _ _ _).mono ?_;rintro r w1 ⟨⟨rfl,ba⟩,ac⟩;have dN:=Kos.one ba;have af:=ac.size;clear ba))
  | (go_at_call_of 103 (Value.int IntKind.i64 10);go_loud (refine(Jak _ _ _).mono ?_;rintro r w2 ⟨⟨rfl,ao⟩,aq⟩;have dR:=Kos.one ao;have br:=aq.size;clear ao))
  | (go_at_call 102;go_loud (refine(jZ.out w.heap.size w1.heap.size w2 Jb (dN.later Jb) dR _).mono ?_;rintro r w4 ⟨⟨v4,rfl,cj⟩,ei⟩)))
 go_ret;exact⟨⟨_,rfl,K8 cj Ui⟩,Jb⟩
def Jci (w:World) (l:List (Int×Int)) (r:Ending) (w':World):Prop:=(∃A cap,r = .returned (.slice A l.length cap)/\Kos w' l A cap)/\Below w.heap.size w w'
theorem X9.at {w:World} {l:List (Int×Int)} {r:Ending} {w':World} (h:X9 w l r w'):Jci w l r w':=by
 obtain⟨⟨v,hr,ae⟩,hb⟩:=h;obtain⟨A,cap,rfl,aY⟩:=Kos.of_own ae;exact⟨⟨A,cap,hr,aY⟩,hb⟩
theorem Jci.less {w w2:World} {l:List (Int×Int)} {r:Ending} {w':World} (h:Jci w2 l r w') (hb:Below w.heap.size w w2):Jci w l r w':=⟨h.1,Jd hb h.2⟩
structure Jb1 (W:World) (X Bs Bf:Nat) (sl:ByteArray->Int) (fl:Int×ByteArray->Int):Prop where
 c0:W.cell? ⟨X,0,none⟩=some (.map (some Bs))
 c2:W.cell? ⟨X,2,none⟩=some (.map (some Bf))
 slots:∃n f c,Q3 Tryz.prog 9 21 .i32 okS klS W Bs n f c/\∀s,okS s->(f s).getD 0=sl s
 flags:∃n f c,Q3 Tryz.prog 81 21 .i32 okC klC W Bf n f c/\∀s,okC s->(f s).getD 0=fl s
theorem Jb1.later {W W':World} {X Bs Bf:Nat} {sl:ByteArray->Int} {fl:Int×ByteArray->Int} (h:Jb1 W X Bs Bf sl fl) (hb:Below W.heap.size W W'):Jb1 W' X Bs Bf sl fl:=by
 obtain⟨c0,c2,⟨n,f,c,hm,hf⟩,⟨n',f',c',yp,hf'⟩⟩:=h;exact⟨Ja hb c0,Ja hb c2,⟨n,f,c,hm.bel hb,hf⟩,⟨n',f',c',yp.bel hb,hf'⟩⟩
theorem Jbp (w:World):(zeroValue 21).run Tryz.prog w = .ok (.int .i32 0) w:=Ue
theorem Kal (w:World) (k:Int) (cs:ByteArray):(w.alloc (.cells #[.int .i64 k,.string cs] 81)).drew.cell? ⟨w.heap.size,0,none⟩=some (.int .i64 k):=by
 exact Uc
theorem Jh7 (X Bs Bf:Nat) (sl:ByteArray->Int) (fl:Int×ByteArray->Int) (ck:Int) (cs:ByteArray) (l:List (Int×Int)) (A:Option Addr) (cap:Nat) (w:World) (hp:Jb1 w X Bs Bf sl fl) (hc:okC (ck,cs)) (hk:ck=0\/ck=1\/ck=2) (hl:Kos w l A cap) (ai:l.length<=900000) :
  Calls Tryz.prog 104 #[.pointer (some ⟨X,0,none⟩),.agg #[.int .i64 ck,.string cs],.slice A l.length cap] w (Jci w (Qk sl (ck,cs) l)):=by
 obtain⟨c0,c2,⟨n,f,c,hm,hf⟩,_⟩:=hp;have dj:okS cs:=hc.2;have eB:=hf cs dj;have hX:X<w.heap.size:=Nu c0;have t1:=Jky l.length Ua;have l2:=hl.1;have m2:=hl.2.1;unfold maxLen at m2;have HF:=Nf eB;have HM:=Nf hm
 have sD:=(fun(g1 g2:Nat) (W:World) (hb:Below w.heap.size w W) (dN:Kos W [(2,sl cs)] (some ⟨g1,0,none⟩) 1) (dR:Kos W [(11,(l.length:Int))] (some ⟨g2,0,none⟩) 1) (t:TypeId)=>
  Jc0 [⟨[(2,sl cs)],some ⟨g1,0,none⟩,1⟩,⟨[(11,(l.length:Int))],some ⟨g2,0,none⟩,1⟩,⟨l,A,cap⟩] (some ⟨W.heap.size,0,none⟩) 3
   (W.alloc (.cells #[.slice (some ⟨g1,0,none⟩) 1 1,.slice (some ⟨g2,0,none⟩) 1 1,.slice A l.length cap] t))
   (Jan rfl fun x hx=>by
    simp only [List.mem_cons,List.not_mem_nil,or_false] at hx
    rcases hx with rfl|rfl|rfl
    ·exact dN
    ·exact dR
    ·exact hl.later hb)
   Gh Uh)
 have sE:=(fun(g1 g2 g3:Nat) (W:World) (hb:Below w.heap.size w W) (dN:Kos W [(2,sl cs)] (some ⟨g1,0,none⟩) 1) (dR:Kos W [(11,(l.length:Int))] (some ⟨g2,0,none⟩) 1) (iI:Kos W [(8,2)] (some ⟨g3,0,none⟩) 1) (t:TypeId)=>
  Jc0 [⟨[(2,sl cs)],some ⟨g1,0,none⟩,1⟩,⟨[(8,2)],some ⟨g3,0,none⟩,1⟩,⟨[(11,(l.length:Int))],some ⟨g2,0,none⟩,1⟩,⟨l,A,cap⟩] (some ⟨W.heap.size,0,none⟩) 4
   (W.alloc (.cells #[.slice (some ⟨g1,0,none⟩) 1 1,.slice (some ⟨g3,0,none⟩) 1 1,.slice (some ⟨g2,0,none⟩) 1 1,.slice A l.length cap] t))
   (Jan rfl fun x hx=>by
    simp only [List.mem_cons,List.not_mem_nil,or_false] at hx
    rcases hx with rfl|rfl|rfl|rfl
    ·exact dN
    ·exact iI
    ·exact dR
    ·exact hl.later hb)
   Gh Uh)
 have rt:∀g1 g2:Nat,Qu [⟨[(2,sl cs)],some ⟨g1,0,none⟩,1⟩,⟨[(11,(l.length:Int))],some ⟨g2,0,none⟩,1⟩,⟨l,A,cap⟩]=Qk sl (1,cs) l:=fun _ _=>by simp [Qu,Qk]
 have yr:∀g1 g2 g3:Nat,Qu [⟨[(2,sl cs)],some ⟨g1,0,none⟩,1⟩,⟨[(8,2)],some ⟨g3,0,none⟩,1⟩,⟨[(11,(l.length:Int))],some ⟨g2,0,none⟩,1⟩,⟨l,A,cap⟩]=Qk sl (2,cs) l:=fun _ _ _=>by simp [Qu,Qk]
 simp only [rt] at sD;simp only [yr] at sE;have ru:Qk sl (0,cs) l=l:=by simp [Qk]
 have HU0:=Nf ru;have HL:=Nf hl;clear hm hf eB hl hc rt yr ru;have rv:=fun(k:Int)=>Jcb (w:=(w.alloc (.cells #[.int .i64 k,.string cs] 81)).drew) (Jc2 Tryz.underlying9) (x:= .string cs) Tryz.underlying204 Tryz.underlying21 (Jbp _) rfl (HM.out.bel Jb) dj HF.out;have hlk1:=rv 0;have hlk2:=rv 1;have hlk3:=rv 2;clear rv
 rcases hk with rfl|rfl|rfl
 all_goals
  go_enter Tryz.func104,Tryz.ntmps104
  go_wp2_with fail
  go_region_law (go_simp;go_wp2_with (first
     | (go_at_call_of 103 (Value.int IntKind.i64 2);go_loud (refine(Jak _ _ _).mono ?_;rintro r w1 ⟨⟨rfl,ba⟩,ac⟩;have dN:=Kos.one ba;have af:=ac.size;(try simp at af);clear ba))
     | (go_at_call_of 103 (Value.int IntKind.i64 11);go_loud (refine(Jak _ _ _).mono ?_;rintro r w2 ⟨⟨rfl,ao⟩,aq⟩;have dR:=Kos.one ao;have br:=aq.size;(try simp at br);clear ao))))
 all_goals
  have cT:=Nd w w1 ((Jh (Jc (Nt) _)).trans (ac.mono Uh));have hB:=Nd w w2 (cT.trans (aq.mono cT.size));have q0:=Ja aq (Ja ac (Kal _ _ _));have uc:=dN.later aq;rw [show ∀k:Int,(w.alloc (.cells #[.int .i64 k,.string cs] 81)).drew.heap.size=w.heap.size+1 from fun _=>Uh] at uc;clear dN
 ·go_wp2_with fail
  go_ret;rw [HU0.out];exact⟨⟨_,_,rfl,HL.out.later hB⟩,hB⟩
 ·go_wp2_with fail
  go_ret;rw [HU0.out];exact⟨⟨_,_,rfl,HL.out.later hB⟩,hB⟩
 iterate 2
  ·go_wp2_with (go_at_call 102;go_loud (refine(sD _ _ w2 hB uc dR _).mono ?_;intro r w4 aZ;obtain⟨⟨A4,c4,rfl,gP⟩,ei⟩:=aZ.at.less (Jc hB _);clear aZ))
   go_ret;exact⟨⟨_,_,rfl,gP⟩,ei⟩
 iterate 2
  ·go_wp2_with (first
    | (go_at_call_of 103 (Value.int IntKind.i64 8);go_loud (refine(Jak _ _ _).mono ?_;rintro r w3 ⟨⟨rfl,aE⟩,aM⟩;have iI:=Kos.one aE;have fe:=aM.size;have cZ:=hB.trans (aM.mono hB.size);clear aE))
    | (go_at_call 102;go_loud (refine(sE _ _ _ w3 cZ (uc.later aM) (dR.later aM) iI _).mono ?_;intro r w4 aZ;obtain⟨⟨A4,c4,rfl,gP⟩,ei⟩:=aZ.at.less (Jc cZ _);clear aZ)))
   go_ret;exact⟨⟨_,_,rfl,gP⟩,ei⟩
def Jag (X Bs Bf:Nat) (sl:ByteArray->Int) (fl:Int×ByteArray->Int) (x:Ex):Prop:=∀(A:Option Addr) (cap:Nat) (ck:Int) (cs:ByteArray) (w:World),Jb1 w X Bs Bf sl fl->Jt w x A cap->okC (ck,cs)->
 Calls Tryz.prog 105 #[.pointer (some ⟨X,0,none⟩),exV x A cap,.agg #[.int .i64 ck,.string cs]] w (Jci w (x.gen sl fl (ck,cs)))
structure Jge (W:World) (bp be bc X:Nat) (A:Option Addr) (len cap:Nat) (ck:Int) (cs:ByteArray):Prop where
 p0:W.cell? ⟨bp,0,none⟩=some (.pointer (some ⟨X,0,none⟩))
 e3:W.cell? ⟨be,3,none⟩=some (.slice A len cap)
 k0:W.cell? ⟨bc,0,none⟩=some (.int .i64 ck)
 k1:W.cell? ⟨bc,1,none⟩=some (.string cs)
theorem Jge.later {W W':World} {bp be bc X:Nat} {A:Option Addr} {len cap:Nat} {ck:Int} {cs:ByteArray} (h:Jge W bp be bc X A len cap ck cs) (hb:Below W.heap.size W W'):Jge W' bp be bc X A len cap ck cs:=
 ⟨Ja hb h.p0,Ja hb h.e3,Ja hb h.k0,Ja hb h.k1⟩
theorem Jwz (X Bs Bf:Nat) (sl:ByteArray->Int) (fl:Int×ByteArray->Int) (e x:Ex) (i:Nat) (hx:e.sub[i]?=some x) (ih:Jag X Bs Bf sl fl x) (bp be bc:Nat) (A:Option Addr) (cap:Nat) (ck:Int) (cs:ByteArray) (w:World)
  (hh:Jge w bp be bc X A e.sub.length cap ck cs) (hp:Jb1 w X Bs Bf sl fl) (he:Jt w e A cap) (hc:okC (ck,cs)) :
  Calls Tryz.prog 119 #[.int .i64 i,.pointer (some ⟨bp,0,none⟩),.pointer (some ⟨be,0,none⟩),.pointer (some ⟨bc,0,none⟩)] w (Jci w (x.gen sl fl (ck,cs))):=by
 obtain⟨p0,e3,k0,k1⟩:=hh;have am:i<e.sub.length:=(Nh hx).1;obtain⟨bI,aD⟩:=he.len;unfold maxLen at aD;obtain⟨b,off,A',cap',rfl,c0,c1,c2,c3,hs⟩:=he.get hx;have hbp:=Nu p0;have ef:=Nu e3;have bU:=Nu k0;have aH:=Nu c0;have sF:=ih A' cap' ck cs w.drew (hp.later (Jh (Nt))) (hs.later (Jh (Nt))) hc;unfold exV at sF;have xT:=Nf sF;clear hx he hs sF ih hp hc
 go_enter Tryz.func119,Tryz.ntmps119
 go_wp2_with fail
 go_region_law (go_simp;go_wp2_with (go_at_call 105;go_loud (refine xT.out.mono ?_;rintro r w1 ⟨⟨A1,c1',rfl,dN⟩,ac⟩)))
 all_goals
  go_wp2_with fail
  go_ret;exact⟨⟨_,_,rfl,dN⟩,(Jh (Nt)).trans (ac.mono Uh)⟩
theorem Jb1.drew {W:World} {X Bs Bf:Nat} {sl:ByteArray->Int} {fl:Int×ByteArray->Int} (h:Jb1 W X Bs Bf sl fl):Jb1 W.drew X Bs Bf sl fl:=h.later (Jh (Nt))
theorem Jcw {X Bs Bf:Nat} {sl:ByteArray->Int} {fl:Int×ByteArray->Int} {e x:Ex} {i:Nat} (hx:e.sub[i]?=some x) (ih:∀x∈e.sub,Jag X Bs Bf sl fl x) {bp be bc:Nat} {A:Option Addr} {cap:Nat} {ck:Int} {cs:ByteArray} {w0:World}
  (hh:Jge w0 bp be bc X A e.sub.length cap ck cs) (hp:Jb1 w0 X Bs Bf sl fl) (he:Jt w0 e A cap) (hc:okC (ck,cs)):Hid (∀w,Below w0.heap.size w0 w->
  Calls Tryz.prog 119 #[.int .i64 i,.pointer (some ⟨bp,0,none⟩),.pointer (some ⟨be,0,none⟩),.pointer (some ⟨bc,0,none⟩)] w (Jci w (x.gen sl fl (ck,cs)))):=
 Nf fun w hb=>Jwz X Bs Bf sl fl e x i hx (ih x (Ni hx)) bp be bc A cap ck cs w (hh.later hb) (hp.later hb) (he.later hb) hc
section
variable (X Bs Bf:Nat) (sl:ByteArray->Int) (fl:Int×ByteArray->Int) (e:Ex)
theorem Jz9 (hk:e.kind=3) (aw:okS e.name):Jag X Bs Bf sl fl e:=by
 intro A cap ck cs w hp he hc;obtain⟨bI,aD⟩:=he.len;unfold maxLen at aD;have hv:e.gen sl fl (ck,cs) = [(2,sl e.name)]:=by rw [Ex.gen_eq];unfold Jae;simp [hk]
 rw [hv];have t3:(e.kind == 3)=true:=Lq;have HP:=Nf hp;unfold exV;clear hk hv hp he hc;have gZ:∀(fn:Fn) (first cap:Array Value) (w:World),(Instr.makeFunc fn first cap).run Tryz.prog w = .ok (.func fn first cap) w:=fun _ _ _ _=>rfl
 go_enter Tryz.func105,Tryz.ntmps105
 go_wp2_with fail
 refine Jo fun W0 ag=>?_;have ax:=Nd w W0 Uz;have bD:W0.heap.size=w.heap.size+3:=Vu;have p0:=Nb W0 w.heap.size 0 (.pointer (some ⟨X,0,none⟩)) Uf;have e0:=Na W0 (w.heap.size+1) 0 e.kind Uf;have e1:=Nb W0 (w.heap.size+1) 1 (.int .i32 e.n) Uf;have e2:=Nb W0 (w.heap.size+1) 2 (.string e.name) Uf;have e3:=Nb W0 (w.heap.size+1) 3 (.slice A e.sub.length cap) Uf;have k0:=Na W0 (w.heap.size+2) 0 ck Uf;have k1:=Nb W0 (w.heap.size+2) 1 (.string cs) Uf;have jl:=lt0 w W0;have bV:=ltA w 1 W0;have gq:=ltA w 2 W0;have hz:w.heap.size<=W0.heap.size:=Ua;clear ag gZ bD;have pp:=HP.out.later ax;obtain⟨c0,c2,⟨n,f,c,hm,hf⟩,_⟩:=pp;have hX:X<W0.heap.size:=Nu c0;have hlk:=Jcb (w:=W0.drew) (Jc2 Tryz.underlying9) (x:= .string e.name) Tryz.underlying204 Tryz.underlying21 (Jbp _) rfl hm.drew aw (hf _ aw);clear hm hf
 go_region_law (go_simp;go_wp2_with (go_at_call_of 103 (Value.int IntKind.i64 2);go_loud (refine(Jak _ _ _).mono ?_;rintro r w1 ⟨⟨rfl,ba⟩,ac⟩;have dN:=Kos.one ba;have af:=ac.size;clear ba)))
 all_goals
  go_wp2_with fail
  go_ret;exact⟨⟨_,_,rfl,by simpa using dN⟩,ax.trans (Below.mono ((Jh (Nt)).trans (ac.mono Uh)) Ua)⟩
theorem Jz6 (hk:e.kind=4) (hs:0<e.sub.length) (cE:e.size<=200000) (ih:∀x∈e.sub,Jag X Bs Bf sl fl x):Jag X Bs Bf sl fl e:=by
 intro A cap ck cs w hp he hc;obtain⟨bI,aD⟩:=he.len;unfold maxLen at aD;have hx:e.sub[0]?=some e.sub[0]:=Ng hs;generalize e.sub[0]=x at hx;have hw:K4 e.kind e.name (ck,cs) 0=(ck,cs):=by unfold K4;simp [hk]
 have hv:e.gen sl fl (ck,cs)=x.gen sl fl (ck,cs) ++ [(8,e.n)]:=by
  rw [Ex.gen_eq,Jae,if_neg Ua,if_pos hk,Ex.genL_get sl fl e.kind e.name (ck,cs) e.sub 0 0 x hx,hw]
 have eS:=Ex.gen_len sl fl e (ck,cs);rw [hv] at eS ⊢;have t3:(e.kind == 3)=false:=L3;have t4:(e.kind == 4)=true:=Lq;have HP:=Nf hp;have HE:=Nf he;have HX:=Nf hx;have HC:=Nf hc;unfold exV;have HG:=Nf eS;clear hk hv hp he hc hw hx eS;have gZ:∀(fn:Fn) (first cap:Array Value) (w:World),(Instr.makeFunc fn first cap).run Tryz.prog w = .ok (.func fn first cap) w:=fun _ _ _ _=>rfl
 go_enter Tryz.func105,Tryz.ntmps105
 go_wp2_with fail
 refine Jo fun W0 ag=>?_;have ax:=Nd w W0 Uz;have bD:W0.heap.size=w.heap.size+3:=Vu;have p0:=Nb W0 w.heap.size 0 (.pointer (some ⟨X,0,none⟩)) Uf;have e0:=Na W0 (w.heap.size+1) 0 e.kind Uf;have e1:=Nb W0 (w.heap.size+1) 1 (.int .i32 e.n) Uf;have e2:=Nb W0 (w.heap.size+1) 2 (.string e.name) Uf;have e3:=Nb W0 (w.heap.size+1) 3 (.slice A e.sub.length cap) Uf;have k0:=Na W0 (w.heap.size+2) 0 ck Uf;have k1:=Nb W0 (w.heap.size+2) 1 (.string cs) Uf;have jl:=lt0 w W0;have bV:=ltA w 1 W0;have gq:=ltA w 2 W0;have hz:w.heap.size<=W0.heap.size:=Ua;clear ag gZ bD;have pp:=Jcw HX.out ih ⟨p0,e3,k0,k1⟩ (HP.out.later ax) (HE.out.later ax) HC.out
 have ay:=Nf (fun(g:List (Int×Int)) (hg:g.length<=700000) (A1:Option Addr) (c1 g2:Nat) (W:World) (dN:Kos W g A1 c1) (dR:Kos W [(8,e.n)] (some ⟨g2,0,none⟩) 1) (t:TypeId)=>
  Jc0 [⟨g,A1,c1⟩,⟨[(8,e.n)],some ⟨g2,0,none⟩,1⟩] (some ⟨W.heap.size,0,none⟩) 2
   (W.alloc (.cells #[.slice A1 g.length c1,.slice (some ⟨g2,0,none⟩) 1 1] t))
   (Jan rfl fun x hx=>by
    simp only [List.mem_cons,List.not_mem_nil,or_false] at hx
    rcases hx with rfl|rfl
    ·exact dN
    ·exact dR)
   Gh Uh)
 have gK:(x.gen sl fl (ck,cs)).length<=700000:=by have:=HG.out;rw [Nk] at this;omega
 have gM:∀(A1:Option Addr) (c1 g2:Nat),Qu [⟨x.gen sl fl (ck,cs),A1,c1⟩,⟨[(8,e.n)],some ⟨g2,0,none⟩,1⟩]=x.gen sl fl (ck,cs) ++ [(8,e.n)]:=fun _ _ _=>by simp [Qu]
 have wL:=Nf gM;clear gM;generalize x.gen sl fl (ck,cs)=g at *
 go_region_law (go_simp;go_wp2_with (first
  | (go_at_call_of 119 (Value.int IntKind.i64 0);go_loud (refine(pp.out _ Jb).mono ?_;rintro r w1 ⟨⟨A1,c1,rfl,dN⟩,ac⟩;have d1:=Ja ac (Zw e1);have af:=ac.size))
  | (go_at_call_of 103 (Value.int IntKind.i64 8);go_loud (refine(Jak _ _ _).mono ?_;rintro r w2 ⟨⟨rfl,ao⟩,aq⟩;have dR:=Kos.one ao;have br:=aq.size;have d2:=Ja aq d1;clear ao))
  | (go_at_call 102;go_loud (refine(ay.out g gK _ _ _ w2 (dN.later aq) dR _).mono ?_;rw [wL.out];intro r w4 aZ;obtain⟨⟨A4,c4,rfl,gP⟩,ei⟩:=aZ.at.less (Jc (ax.trans (Below.mono (Below.trans (Jh (Nt)) (Below.trans (ac.mono Uh) (aq.mono af))) (by first|omega|simpa using hz))) _);clear aZ))))
 all_goals
  go_wp2_with fail
  go_ret;exact⟨⟨A4,c4,by rw [Nk];rfl,gP⟩,ei⟩
end
end Go.Proofs.YtdgjplldlfeolaaGreatDoor
namespace Go.Proofs.YtdgjplldlfeolaaGreatDoor
open Go.RowKit
theorem Jgj {α:Type} {P:List α->Prop} (h0:P []) (h1:∀l x,P l->P (l ++ [x])):∀l,P l:=fun l=>by
 have:∀r:List α,P r.reverse:=fun r=>by
  induction r with
  | nil=>exact h0
  | cons x r ih=>rw [List.reverse_cons];exact h1 _ _ ih
 rw [<-List.reverse_reverse l];exact this _
def Jft (L:List Va) (s:ByteArray):Option Int:=L.zipIdx.foldl (fun c v=>if s.data=v.1.name.data then some (v.2:Int) else c) none
theorem Jeh (L:List Va) (v:Va) (s:ByteArray):Jft (L ++ [v]) s=if s.data=v.name.data then some (L.length:Int) else Jft L s:=by
 unfold Jft;rw [List.zipIdx_append,List.foldl_append];simp [List.zipIdx]
def Jcq (L:List Va) (s:ByteArray):Option (Int×ByteArray):=L.foldl (fun c v=>if s.data=v.name.data then some (v.ck,v.cn) else c) none
theorem Jce (L:List Va) (v:Va) (s:ByteArray):Jcq (L ++ [v]) s=if s.data=v.name.data then some (v.ck,v.cn) else Jcq L s:=by
 unfold Jcq;rw [List.foldl_append];exact Gp
def Jeg (l:List Ce) (d:Int×ByteArray):Option Int:=l.zipIdx.foldl (fun c x=>if x.1.name.toList.isEmpty=true/\d.1=x.1.ck/\d.2.data=x.1.cn.data then some (x.2:Int) else c) none
theorem Jef (l:List Ce) (x:Ce) (d:Int×ByteArray):Jeg (l ++ [x]) d=if x.name.toList.isEmpty=true/\d.1=x.ck/\d.2.data=x.cn.data then some (l.length:Int) else Jeg l d:=by
 unfold Jeg;rw [List.zipIdx_append,List.foldl_append];simp [List.zipIdx]
theorem Jlb (v:Va) (s:ByteArray):∀(L:List Va) (i:Int),Xf (L ++ [v]) s i=match Xf L s i with|some j=>some j|none=>if s.data=v.name.data then some (i+(L.length:Int)) else none
 | [],i=>by simp [Xf]
 | u :: L,i=>by
  simp only [List.cons_append,Xf]
  split
  ·exact Gp
  ·rw [Jlb v s L (i+1)]
   cases Xf L s (i+1)
   ·simp only [Nl]
    split
    ·congr 1;omega
    ·exact Gp
   ·exact Gp
theorem Jlv:∀(L:List Va) (s:ByteArray) (i:Int),(∀u∈L,u.name≠s)->Xf L s i=none
 | [],s,i,_=>rfl
 | u :: L,s,i,h=>by
  have h1:=h u Uh;rw [Xf,if_neg (fun he=>h1 (by ext1;exact he.symm))];exact Jlv L s (i+1) fun y hy=>h y Mx
theorem Jrw (s:ByteArray):∀(L:List Va),(L.map (·.name)).Nodup->Jft L s=Qi L s:=by
 refine Jgj (fun _=>rfl) fun L v ih hn=>?_
 ·rw [List.map_append,List.nodup_append] at hn;rw [Jeh,ih hn.1];unfold Qi;rw [Jlb]
  by_cases hs:s.data=v.name.data
  ·have hsv:s=v.name:=by ext1;exact hs
   rw [Jlv L s 0 (fun u hu he=>hn.2.2 u.name (List.mem_map.2 ⟨u,hu,rfl⟩) v.name Uh (he.trans hsv))];simp [hs]
  ·rw [if_neg hs]
   cases Xf L s 0 <;> simp [hs]
theorem Jtm (s:ByteArray):∀(L:List Va),(∀u∈L,u.name≠s)->Jft L s=none:=by
 refine Jgj (fun _=>rfl) fun L v ih h=>?_;rw [Jeh,if_neg (fun he=>h v Uh (by ext1;exact he.symm))];exact ih fun u hu=>h u S0
theorem Jlc (s:ByteArray):∀(L:List Va),(∀u∈L,u.name≠s)->Jcq L s=none:=by
 refine Jgj (fun _=>rfl) fun L v ih h=>?_;rw [Jce,if_neg (fun he=>h v Uh (by ext1;exact he.symm))];exact ih fun u hu=>h u S0
theorem Jid {L:List Va} (hn:(L.map (·.name)).Nodup) {k:Nat} {x:Va} (hx:L[k]?=some x):∀u∈L.take k,u.name≠x.name:=by
 intro u hu he;obtain⟨j,hj⟩:=List.getElem?_of_mem hu
 have tB:j<k:=by
  have:=(Nh hj).1;rw [List.length_take] at this;omega
 rw [List.getElem?_take,if_pos tB] at hj;have e1:(L.map (·.name))[j]?=some x.name:=by rw [List.getElem?_map,hj];simp [he]
 have e2:(L.map (·.name))[k]?=some x.name:=by rw [List.getElem?_map,hx];rfl
 obtain⟨l1,g1⟩:=Nh e1;obtain⟨l2,g2⟩:=Nh e2;have:=(List.getElem_inj hn).1 (g1.trans g2.symm);exact Ua
theorem Jiv (s:ByteArray):∀L:List Va,(Jcq L s).getD (0,⟨#[]⟩)=L.foldl (fun c v=>if s.data=v.name.data then(v.ck,v.cn) else c) (0,⟨#[]⟩):=by
 refine Jgj rfl fun L v ih=>?_
 ·rw [Jce,List.foldl_append];simp only [List.foldl_cons,List.foldl_nil]
  split
  ·exact Gp
  ·exact ih
end Go.Proofs.YtdgjplldlfeolaaGreatDoor
