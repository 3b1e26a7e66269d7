/- Lemmas. -/
import Derived.Test.YtdgjplldlfeolaaGreatDoorZ25
import Derived.Test.YtdgjplldlfeolaaGreatDoorZ01
import Derived.Test.YtdgjplldlfeolaaGreatDoorZ22
set_option linter.unusedVariables false
set_option linter.unusedSimpArgs false
set_option maxRecDepth 100000
set_option maxHeartbeats 64000000
namespace Go.Proofs.YtdgjplldlfeolaaGreatDoor
open Go.RowKit Go.Sort
theorem Jfr (p:Pr) (a:PrA) (w:World) (hg:Ql w) (hp:Kr w p a) (aw:Ke5 p) (n1:p.ins.length<=1000000) (n2:p.outs.length<=1000000) (n3:p.locals.length<=1000000) (n4:p.eqs.length<=1000000) :
  Calls Tryz.prog 106 #[prV p a] w fun r w'=>(∃v,r = .returned (.tuple #[v,fV (J1 p).2])/\w'.ownsRow w.heap.size 3 1 v (J1 p).1.length ((J1 p).1.map (.int .i64)))/\Below w.heap.size w w':=by
 by_cases aN:Qg p=(0,0,0)
 ·have h:=Jql p a w hg hp aw n1 n2 n3 n4 aN;rw [show J1 p=Jdx p by unfold J1;rw [if_pos aN,Jtf aN]];exact h
 ·refine(Jqt p a w hg hp n1 n2 n3 n4 aN).mono ?_;rintro r w' ⟨rfl,hb⟩;rw [show J1 p=([],Qg p) by unfold J1;rw [if_neg aN]];exact⟨⟨.slice none 0 0,rfl,World.ownsRow_nil _ _ _ _⟩,hb⟩
theorem Yq.take {w:World} {l:List Int} {A:Option Addr} {cap:Nat} (h:Yq w l A cap) (k:Nat):Yq w (l.take k) A cap:=
 ⟨by have:=h.1;simp;omega,h.2.1,fun hl=>by
  obtain⟨b,off,hA,hr⟩:=h.2.2 (by simp at hl;omega);exact⟨b,off,hA,fun j x hj=>hr j x (by rw [List.getElem?_take] at hj;split at hj <;> simp_all)⟩⟩
theorem Jr6 (p:Pr) (a:PrA) (w:World) (hg:Ql w) (hp:Kr w p a) (aw:Ke5 p) (n1:p.ins.length<=1000000) (n2:p.outs.length<=1000000) (n3:p.locals.length<=1000000) (n4:p.eqs.length<=1000000) (aS:(J1 p).2≠(0,0,0)) :
  Calls Tryz.prog 140 #[prV p a] w fun r w'=>r = .returned (.tuple #[.map none,fV (J1 p).2])/\Below w.heap.size w w':=by
 have dY:=fun W h=>Jfr p a W (hg.later h) (hp.later h) aw n1 n2 n3 n4;clear hg aw;obtain⟨A1,c1,A2,c2,A3,c3,A4,c4⟩:=a;unfold prV fV at *;dsimp only at *;generalize J1 p=O at *;obtain⟨l,f1,f2,f3⟩:=O;dsimp only at *
 have mA:(f1 == 0 && f2 == 0 && f3 == 0)=false:=by
  rw [Bool.eq_false_iff];intro h;simp only [Bool.and_eq_true,beq_iff_eq] at h;exact aS (by rw [h.1.1,h.1.2,h.2])
 have dp:∀w,(Op.equalIn 10000 32 (.agg #[.int .i64 f1,.int .i64 f2,.int .i64 f3]) (.agg #[.int .i64 0,.int .i64 0,.int .i64 0])).run Tryz.prog w = .ok false w:=fun w=>by rw [Zr,mA]
 have fM:Tryz.prog.eqGuardType Tryz.prog.depth 32=false:=by kernel_rfl
 clear aS mA hp
 go_enter Tryz.func140,Tryz.ntmps140
 go_wp2_with (first|(go_at_call 106;go_loud (refine(dY _ Jb).mono ?_;rintro r wo ⟨⟨vo,rfl,ay⟩,cW⟩;obtain⟨Ao,co,rfl,ln,jm⟩:=Jv ay;have jY:=Jg cW;have lz:=Jf cW;have jB:w.heap.size+2<=wo.heap.size:=(by have:=cW.size;simpa using this);have nY:w.heap.size<wo.heap.size:=(by omega);have jA:w.heap.size+1<wo.heap.size:=(by omega);clear ay)))
 go_region
 all_goals
  go_wp2_with fail
  refine bodyPost_ret (v:= .tuple #[.map none,.agg #[.int .i64 f1,.int .i64 f2,.int .i64 f3]]) (by simp [results,Tryz.results140,go_sem, *]) rfl ⟨rfl,?_⟩
  (repeat refine Jh ?_)
  exact Km
theorem Jfo {p:Pr} (aN:Qg p=(0,0,0)) (aw:Ke5 p):∀q∈p.eqs,q.name.size<=maxLen/\q.name.toList.isEmpty=false/\q.e.formed=true/\q.e.OK/\q.e.size<=1000000:=fun q hq=>by
 have hb:=(X4 (Xp (Xk aN).1).1).2.2.2.2 q hq;obtain⟨h1,h2,h3,_⟩:=Jaq hb;simp only [eqB,Bool.and_eq_true] at hb;exact⟨by unfold maxLen;omega,Jbx hb.1.1,h2,(aw.eqs q hq).2.2.2,by omega⟩
theorem Jti (p:Pr) (a:PrA) (w:World) (hg:Ql w) (hp:Kr w p a) (aw:Ke5 p) (n1:p.ins.length<=1000000) (n2:p.outs.length<=1000000) (n3:p.locals.length<=1000000) (n4:p.eqs.length<=1000000) (jM:(J1 p).2=(0,0,0)) :
  Calls Tryz.prog 140 #[prV p a] w fun r w'=>(∃(B n:Nat) (f:ByteArray->Option Int),r = .returned (.tuple #[.map (some B),fV (0,0,0)])/\w.heap.size<=B/\Jz Tryz.prog 9 3 w' B n f/\Jc7 f (Qs p).1)/\Below w.heap.size w w':=by
 obtain⟨LF,nl⟩:∃L,L=(Qs p).1:=⟨_,rfl⟩;have hL:LF=Xj p.eqs (Jbj p.eqs) (J1 p).1:=by rw [nl];unfold Qs;rw [if_pos jM]
 rw [<-nl];obtain⟨aN,ai,fm⟩:=Yg jM;have dn:=Jfo aN aw;have dY:=fun W h=>Jfr p a W (hg.later h) (hp.later h) aw n1 n2 n3 n4;obtain⟨l,hl⟩:∃l,J1 p=(l,(0,0,0)):=⟨(J1 p).1,by rw [<-jM]⟩;rw [hl] at dY hL fm ai;dsimp only at dY hL fm ai;have HL:=Lib.hid hL;have HG:=Lib.hid fm;have jR:=Lib.hid dn;clear nl hL jM aN dn fm hl hg aw;have dp:∀w,(Op.equalIn 10000 32 (.agg #[.int .i64 0,.int .i64 0,.int .i64 0]) (.agg #[.int .i64 0,.int .i64 0,.int .i64 0])).run Tryz.prog w = .ok true w:=fun w=>by rw [Zr];rfl
 have fM:Tryz.prog.eqGuardType Tryz.prog.depth 32=false:=by kernel_rfl
 have gI:=@run_makeMap Tryz.prog;have bT:=hp.eqs;have cG:=hp.eqs.len;obtain⟨A1,c1,A2,c2,A3,c3,A4,c4⟩:=a;unfold maxLen at cG;unfold prV fV at *;dsimp only at *;obtain⟨fT,fU⟩:=cG;clear hp
 go_enter Tryz.func140,Tryz.ntmps140
 go_wp2_with (first|(go_at_call 106;go_loud (refine(dY _ Jb).mono ?_;rintro r wo ⟨⟨vo,rfl,ay⟩,cW⟩;obtain⟨Ao,co,rfl,ln,jm⟩:=Jv ay;have lr:=Yq.of_own ay;have jY:=Jg cW;have lz:=Jf cW;have jB:w.heap.size+2<=wo.heap.size:=(by have:=cW.size;simpa using this);have nY:w.heap.size<wo.heap.size:=(by omega);have jA:w.heap.size+1<wo.heap.size:=(by omega);clear ay)))
 refine Jo fun W0 ag=>?_;have ax:Below w.heap.size w W0:=by rw [ag];(repeat refine Jh ?_);exact Km
 have hmb1:w.heap.size+1<wo.heap.size+1:=by omega
 have hmb0:w.heap.size<wo.heap.size+1:=by omega
 have hmb3:wo.heap.size<wo.heap.size+1:=by omega
 have hmb2:wo.heap.size+1<W0.heap.size:=by rw [ag];simp
 have eU:Jz Tryz.prog 9 3 W0 (wo.heap.size+1) 0 (fun _=>none):=by
  rw [ag];have h1:=Jz.made (P:=Tryz.prog) (k:=9) (e:=3) (wo.alloc (.cells #[.int .i64 0,.int .i64 0,.int .i64 0] 32));simpa using h1
 have rY:Below wo.heap.size wo W0:=by rw [ag];(repeat refine Jh ?_);exact Km
 have x4:W0.cell? ⟨w.heap.size,4,none⟩=some (.slice A4 p.eqs.length c4):=by rw [ag];go_simp
 have f0:W0.cell? ⟨w.heap.size+1,0,none⟩=some (.int .i64 0):=by rw [ag];go_simp
 have f1:W0.cell? ⟨w.heap.size+1,1,none⟩=some (.int .i64 0):=by rw [ag];go_simp
 have f2:W0.cell? ⟨w.heap.size+1,2,none⟩=some (.int .i64 0):=by rw [ag];go_simp
 have v0:W0.cell? ⟨wo.heap.size,0,none⟩=some (.int .i64 0):=by rw [ag];go_simp
 have v1:W0.cell? ⟨wo.heap.size,1,none⟩=some (.int .i64 0):=by rw [ag];go_simp
 have v2:W0.cell? ⟨wo.heap.size,2,none⟩=some (.int .i64 0):=by rw [ag];go_simp
 have z0:W0.frozen? ⟨w.heap.size+1,0,none⟩=false:=by rw [ag];go_simp
 have z1:W0.frozen? ⟨w.heap.size+1,1,none⟩=false:=by rw [ag];go_simp
 have z2:W0.frozen? ⟨w.heap.size+1,2,none⟩=false:=by rw [ag];go_simp
 have bI:=lr.1;unfold maxLen at jm;clear ag jY lz jB nY jA dY gI dp fM cW
 go_loopw [24] (fun i wr=>∃(k n:Nat) (f:ByteArray->Option Int),k<=p.eqs.length/\i = .int .i64 k/\n<=k/\Hid (Jz Tryz.prog 9 3 wr (wo.heap.size+1) n f)/\Hid (Jc7 f (Jbj (p.eqs.take k)))/\Hid (W0.grownBy wr (some (wo.heap.size+1)))) (fun i _=>p.eqs.length-(intOf i).toNat)
 case atStart=>exact⟨0,0,_,Nat.zero_le _,rfl,Nat.le_refl _,Lib.hid eU,Lib.hid Juq,Lib.hid ⟨rfl,rfl,rfl,Nat.le_refl _,fun _ _ _=>rfl⟩⟩
 case round=>
  obtain⟨k,n,f,hk,rfl,hn,hm,kz,bB⟩:=hrel;have eC:=bB.out.size;have dh:Below w.heap.size w wr:=J2 ax bB.out (fun b hb=>by injection hb with hb;omega) (by omega);have iQ:Below (wo.heap.size+1) W0 wr:=J2 (Below.refl _ W0) bB.out (fun b hb=>by injection hb with hb;omega) (by omega);have fG:=Jdu iQ;have wZ:=Jfi iQ;have ej:=hm.out;have dW:=hm.out.lt;have qn:w.heap.size<wr.heap.size:=by omega
  by_cases am:k<p.eqs.length
  ·obtain⟨q,hx,-,hd⟩:=Kl am;obtain⟨b,off,B1,n1,B2,n2,rfl,aH,⟨g0,g1,g2,g3,g4,g5,g6,g7,g8,g9,s1,s2⟩⟩:=(bT.later dh).get hx;have jk:=Jlf p.eqs hx;obtain⟨dn,gX,_⟩:=jR.out q (List.mem_of_getElem? hx);clear hd hx
   cases ek:(q.delay == 2)
   ·rw [ek,if_neg (by simp)] at jk;have HA:=Lib.hid (by rw [jk];exact kz.out:Jc7 f (Jbj (p.eqs.take (k+1))));clear jk gX
    go_wp2_with fail
    go_roundw
    case rel=>exact⟨k+1,n,f,by omega,by go_num,by omega,Lib.hid (ej.keep1 (heap_alloc_old _ _ dW)),HA,Lib.hid (Qn bB.out (World.grownBy_alloc wr _ _))⟩
    case measure=>simp [intOf];try omega
   ·rw [ek,if_pos rfl] at jk;have HA:=Lib.hid (by rw [jk];exact Jlu kz.out gX:Jc7 (upd f q.name 1) (Jbj (p.eqs.take (k+1))));clear jk gX
    go_wp2_with (first|(at_mapUpdate;go_loud (refine Jau rfl (.tmp 31) (.tmp 33) _ 256 rfl Tryz.underlying9 Tryz.underlying256 Tryz.underlying3 (wo.heap.size+1) n f q.name 1 rfl (ej.keep1 (heap_alloc_old _ _ dW)) (by omega) rfl rfl dn (by omega) ?_;intro w2 cI aG;have kj:=Lib.hid cI;have kr:=Lib.hid aG;clear cI aG)))
    go_roundw
    case rel=>exact⟨k+1,n+1,_,by omega,by go_num,by omega,kj,HA,Lib.hid (Qn bB.out (Qn (World.grownBy_alloc wr _ _) kr.out))⟩
    case measure=>simp [intOf];try omega
  ·obtain rfl:k=p.eqs.length:=by omega
   have vX:=kz.out;rw [List.take_length] at vX;have HAG:=Lib.hid vX;clear kz vX
   go_wp2_with fail
   clear fG wZ ej dW qn dh iQ
   go_loopw [37] (fun i wr=>∃(k n:Nat) (f:ByteArray->Option Int) (out:List ByteArray),k<=l.length/\i = .int .i64 k/\n<=p.eqs.length+k/\Hid (Jz Tryz.prog 9 3 wr (wo.heap.size+1) n f)/\Hid (Jc7 f out)/\Hid (Xj p.eqs out (l.drop k)=LF)/\Hid (W0.grownBy wr (some (wo.heap.size+1)))) (fun i _=>l.length-(intOf i).toNat)
   case atStart=>exact⟨0,n,f,Jbj p.eqs,Nat.zero_le _,rfl,by omega,hm,HAG,Lib.hid (by rw [List.drop_zero];exact HL.out.symm),bB⟩
   case round=>
    clear HAG hm bB eC;obtain⟨k,n,f,out,hk,rfl,hn,hm,kz,aa,bB⟩:=hrel;have eC:=bB.out.size;have dh:Below w.heap.size w wr:=J2 ax bB.out (fun b hb=>by injection hb with hb;omega) (by omega);have iQ:Below (wo.heap.size+1) W0 wr:=J2 (Below.refl _ W0) bB.out (fun b hb=>by injection hb with hb;omega) (by omega);have fG:=Jdu iQ;have wZ:=Jfi iQ;have ej:=hm.out;have dW:=hm.out.lt;have qn:w.heap.size<wr.heap.size:=by omega
    have hiw:Below wo.heap.size wo wr:=J2 rY bB.out (fun b hb=>by injection hb with hb;omega) (by omega)
    by_cases am:k<l.length
    ·have hx:l[k]?=some l[k]:=List.getElem?_eq_getElem am;have hd:l.drop k=l[k] :: l.drop (k+1):=List.drop_eq_getElem_cons am;generalize l[k]=j at hx hd;obtain⟨m,q,rfl,hq⟩:=HG.out k j hx;have yp:m<p.eqs.length:=(List.getElem?_eq_some_iff.1 hq).1;obtain⟨bi,oi,rfl,pU,di⟩:=(lr.later hiw).get hx;obtain⟨b,off,B1,m1,B2,m2,rfl,aH,⟨g0,g1,g2,g3,g4,g5,g6,g7,g8,g9,s1,s2⟩⟩:=(bT.later dh).get hq;obtain⟨dn,gX,cM,gV,ju⟩:=jR.out q (List.mem_of_getElem? hq);have hr:=aa.out;rw [hd,Xj,Int.toNat_natCast,hq] at hr;dsimp only at hr;rw [<-kz.out.reach] at hr;have hZ:=fun W h=>Jgc q.e B2 m2 (wo.heap.size+1) n f W (s2.later h) cM gV ju (ej.bel h);unfold exV at hZ;clear hd hx hq aa cM gV ju s1 g1 g2 g3 g4 g5
     cases eY:q.e.reach (onM f)
     ·rw [eY,if_neg (by simp)] at hr;have lv:=Lib.hid eY;have HR:=Lib.hid hr;clear eY hr gX
      go_wp2_with (first|(go_at_call 141;go_loud (refine(hZ _ Jb).mono ?_;rw [lv.out];rintro r w1 ⟨rfl,ac⟩;have ak:=Jg ac;have af:=ac.size;have bV:w.heap.size<w1.heap.size:=(by omega))))
      go_roundw
      case rel=>exact⟨k+1,n,f,out,by omega,by go_num,by omega,Lib.hid (ej.bel ac),kz,HR,Lib.hid (Qn bB.out (Jat ac))⟩
      case measure=>simp [intOf];try omega
     ·rw [eY,if_pos rfl] at hr;have lv:=Lib.hid eY;have HR:=Lib.hid hr;have HA:=Lib.hid (Jlu kz.out gX);clear eY hr gX
      go_wp2_with (first|(go_at_call 141;go_loud (refine(hZ _ Jb).mono ?_;rw [lv.out];rintro r w1 ⟨rfl,ac⟩;have ak:=Jg ac;have af:=ac.size;have bV:w.heap.size<w1.heap.size:=(by omega)))|(at_mapUpdate;go_loud (refine Jau rfl (.tmp 49) (.tmp 55) _ 256 rfl Tryz.underlying9 Tryz.underlying256 Tryz.underlying3 (wo.heap.size+1) n f q.name 1 rfl (ej.bel ac) (by omega) rfl rfl dn (by omega) ?_;intro w2 cI aG;have kj:=Lib.hid cI;have kr:=Lib.hid aG;clear cI aG)))
      go_roundw
      case rel=>exact⟨k+1,n+1,_,out ++ [q.name],by omega,by go_num,by omega,kj,HA,HR,Lib.hid (Qn bB.out (Qn (Jat ac) kr.out))⟩
      case measure=>simp [intOf];try omega
    ·obtain rfl:k=l.length:=by omega
     have hr:=aa.out;rw [List.drop_length,Xj] at hr;have HR:=Lib.hid hr;clear hr aa
     go_wp2_with fail
     go_region
     all_goals
      go_wp2_with fail
      refine bodyPost_ret (v:= .tuple #[.map (some (wo.heap.size+1)),.agg #[.int .i64 0,.int .i64 0,.int .i64 0]]) (by simp [results,Tryz.results140,go_sem, *]) rfl ⟨⟨wo.heap.size+1,n,f,rfl,by omega,?_,by rw [<-HR.out];exact kz.out⟩,?_⟩
      ·refine ej.keep1 ?_
       (repeat first|rfl|refine(heap_setCell_other _ _ _ _ (by show wo.heap.size+1≠w.heap.size+1;omega)).trans ?_)
      ·(repeat refine Jh ?_)
       exact Km
end Go.Proofs.YtdgjplldlfeolaaGreatDoor
