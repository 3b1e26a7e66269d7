/- Lemmas. -/
import Derived.Test.YtknfcamdfdfoeaaGreatDoorMac
import Derived.Test.YtknfcamdfdfoeaaGreatDoorZ24
import Derived.Test.YtknfcamdfdfoeaaGreatDoorZ31
import Derived.Test.YtknfcamdfdfoeaaGreatDoorZ23
import Derived.Test.YtknfcamdfdfoeaaGreatDoorZ17
import Derived.Test.YtknfcamdfdfoeaaGreatDoorZ08
set_option linter.unusedVariables false
set_option linter.unusedSimpArgs false
set_option maxRecDepth 100000
set_option maxHeartbeats 64000000
namespace Go.Proofs.YtknfcamdfdfoeaaGreatDoor
open Go.RowKit Go.Sort
theorem Jq1 (p:Pr) (a:PrA) (w:World) (hp:Kr w p a) (aw:Q4 p) (n1:p.ins.length<=1000000) (n2:p.outs.length<=1000000) (n3:p.locals.length<=1000000) (n4:p.eqs.length<=1000000) (aS:(J1 p).2.2.2≠0) :
  Calls Tryz.prog 80 #[prV p a] w fun r w'=>r = .returned (.tuple #[.slice none 0 0,fV (J1 p).2])/\Below w.heap.size w w':=by
 have dY:=fun W h=>Jg8 p a W (hp.later h) aw n1 n2 n3 n4;clear aw;obtain⟨A1,c1,A2,c2,A3,c3,A4,c4⟩:=a;unfold prV fV at *;dsimp only at *;generalize J1 p=O at *;obtain⟨l,f1,f2,f3⟩:=O;dsimp only at *;have t1:(f3 != 0)=true:=Se;clear aS hp
 go_enter Tryz.func80,Tryz.ntmps80
 go_wp2_with (first|(go_at_call 29;go_loud (refine(dY _ Jb).mono ?_;rintro r wo ⟨⟨vo,rfl,ay⟩,cW⟩;obtain⟨Ao,co,rfl,ln,jm⟩:=Jv ay;have jY:=Jg cW;have lz:=Jf cW;have jB:w.heap.size+2<=wo.heap.size:=Ln;have nY:w.heap.size<wo.heap.size:=Ua;have jA:w.heap.size+1<wo.heap.size:=Ua;clear ay)))
 go_region
 all_goals
  go_wp2_with fail
  refine bodyPost_ret (v:= .tuple #[.slice none 0 0,.agg #[.int .i64 f1,.int .i64 f2,.int .i64 f3]]) (by simp [results,Tryz.results80,go_sem, *]) rfl ⟨rfl,?_⟩
  (repeat refine Jh ?_)
  exact Km
theorem Jq4 (p:Pr) (a:PrA) (w:World) (hp:Kr w p a) (aw:Q4 p) (n1:p.ins.length<=1000000) (n2:p.outs.length<=1000000) (n3:p.locals.length<=1000000) (n4:p.eqs.length<=1000000) (jM:(J1 p).2=(0,0,0)) :
  Calls Tryz.prog 80 #[prV p a] w fun r w'=>(∃v,r = .returned (.tuple #[v,fV (0,0,0)])/\w'.ownsRow w.heap.size 9 1 v (Qs p).1.length ((Qs p).1.map .string))/\Below w.heap.size w w':=by
 obtain⟨LF,nl⟩:∃L,L=(Qs p).1:=⟨_,rfl⟩;have hL:LF=Xj p.eqs (Jbj p.eqs) (J1 p).1:=by rw [nl];unfold Qs;rw [if_pos jM]
 rw [<-nl];obtain⟨aN,ai,fm⟩:=Yg jM;have dn:=Jfo aN aw;have dY:=fun W h=>Jg8 p a W (hp.later h) aw n1 n2 n3 n4;obtain⟨l,hl⟩:∃l,J1 p=(l,(0,0,0)):=⟨(J1 p).1,by rw [<-jM]⟩;rw [hl] at dY hL fm ai;dsimp only at dY hL fm ai;have HL:=Lib.hid hL;have HG:=Lib.hid fm;have jR:=Lib.hid dn;clear nl hL jM aN dn fm hl aw;have bT:=hp.eqs;have cG:=hp.eqs.len;obtain⟨A1,c1,A2,c2,A3,c3,A4,c4⟩:=a;unfold maxLen at cG;unfold prV fV at *;dsimp only at *;obtain⟨fT,fU⟩:=cG;clear hp
 go_enter Tryz.func80,Tryz.ntmps80
 go_wp2_with (first|(go_at_call 29;go_loud (refine(dY _ Jb).mono ?_;rintro r wo ⟨⟨vo,rfl,ay⟩,cW⟩;obtain⟨Ao,co,rfl,ln,jm⟩:=Jv ay;have lr:=Yq.of_own ay;have jY:=Jg cW;have lz:=Jf cW;have jB:w.heap.size+2<=wo.heap.size:=Ln;have nY:w.heap.size<wo.heap.size:=Ua;have jA:w.heap.size+1<wo.heap.size:=Ua;clear ay)))
 refine Jo fun W0 ag=>?_;have ax:Below w.heap.size w W0:=Vl;have bD:w.heap.size+1<W0.heap.size:=Su;have rx:w.heap.size<W0.heap.size:=Ua;have rY:Below wo.heap.size wo W0:=Vl;have hio1:Yq W0 l Ao co:=lr.later rY;have x4:W0.cell? ⟨w.heap.size,4,none⟩=some (.slice A4 p.eqs.length c4):=Uc;have f0:W0.cell? ⟨w.heap.size+1,0,none⟩=some (.int .i64 0):=Uc;have f1:W0.cell? ⟨w.heap.size+1,1,none⟩=some (.int .i64 0):=Uc;have f2:W0.cell? ⟨w.heap.size+1,2,none⟩=some (.int .i64 0):=Uc;have z0:W0.frozen? ⟨w.heap.size+1,0,none⟩=false:=Uc;have z1:W0.frozen? ⟨w.heap.size+1,1,none⟩=false:=Uc;have z2:W0.frozen? ⟨w.heap.size+1,2,none⟩=false:=Uc;have bI:=lr.1;unfold maxLen at jm;clear ag jY lz jB nY jA dY lr rY cW
 go_loopw [6,7] (fun o i wr=>∃(k:Nat) (D:Option Addr) (dc:Nat) (R:List ByteArray),k<=p.eqs.length/\i = .int .i64 k/\o = .slice D R.length dc/\R.length<=k/\Hid (R=Jbj (p.eqs.take k))/\Hid (wr.ownsRow W0.heap.size 9 1 (.slice D R.length dc) R.length (R.map .string))/\Below W0.heap.size W0 wr) (fun _ i _=>p.eqs.length-(intOf i).toNat)
 case atStart=>exact⟨0,none,0,[],Nat.zero_le _,rfl,rfl,Nat.le_refl _,Lib.hid rfl,Lib.hid (World.ownsRow_nil _ _ _ _),Below.refl _ _⟩
 case round=>
  obtain⟨k,D,dc,R,hk,rfl,rfl,hRl,hR,ae,ab⟩:=hrel;have aC:Below w.heap.size w wr:=Jn ax ab Ua;have hc:=Jg ab;have bu:=ab.size
  by_cases am:k<p.eqs.length
  ·obtain⟨q,hx,-,hd⟩:=Kl am;obtain⟨b,off,B1,n1,B2,n2,rfl,aH,⟨g0,g1,g2,g3,g4,g5,g6,g7,g8,g9,s1,s2⟩⟩:=(bT.later aC).get hx;have jk:=Jlf p.eqs hx;rw [<-hR.out] at jk;have ba:=ae.out;clear hd hx hR g2 g3 g4 g5 g6 g7 g8 g9 s1 s2
   cases ek:(q.delay == 2)
   ·rw [ek,if_neg Ul] at jk;have HP:=Lib.hid jk.symm;clear jk
    go_wp2_with fail
    go_roundw
    case rel=>exact⟨k+1,D,dc,R,Ua,Up,rfl,Ua,HP,ae,Jb⟩
    case measure=>simp [intOf];try omega
   ·rw [ek,if_pos rfl] at jk;have HP:=Lib.hid jk.symm;clear jk
    go_wp2_with (first|(at_builtin;go_loud (refine K2 rfl (.tmp 32) (.tmp 39) 121 rfl W0.heap.size 9 _ 1 16 Tryz.underlying121 Zq rfl Ua (.slice D R.length dc) R.length (R.map .string) _ 1 [.string q.name] rfl (Js ba) rfl rfl (fun j u hj=>U9) Uv Ua Ua Uj ?_;intro v2 w2 ao aq;have br:=aq.size;(try simp at br);obtain⟨A2',cv2,rfl,it,iu⟩:=Jv ao)))
    go_roundw
    case rel=>exact⟨k+1,A2',cv2,R ++ [q.name],Ua,Up,Ul,Uj,HP,Lib.hid (by rw [List.map_append,List.length_append];exact ao),Jb⟩
    case measure=>simp [intOf];try omega
  ·obtain rfl:k=p.eqs.length:=Ua;have hr:=hR.out;rw [List.take_length] at hr;have HL2:=Lib.hid (by rw [hr];exact HL.out.symm:Xj p.eqs R l=LF);clear hr hR
   go_wp2_with fail
   clear aC hc bu HL
   go_loopw [6,8] (fun o i wr=>∃(k:Nat) (D:Option Addr) (dc:Nat) (R:List ByteArray),k<=l.length/\i = .int .i64 k/\o = .slice D R.length dc/\R.length<=p.eqs.length+k/\Hid (Xj p.eqs R (l.drop k)=LF)/\Hid (wr.ownsRow W0.heap.size 9 1 (.slice D R.length dc) R.length (R.map .string))/\Below W0.heap.size W0 wr) (fun _ i _=>l.length-(intOf i).toNat)
   case atStart=>exact⟨0,D,dc,R,Nat.zero_le _,rfl,rfl,Ua,Lib.hid (by rw [List.drop_zero];exact HL2.out),ae,ab⟩
   case round=>
    clear HL2 ae ab;obtain⟨k,D,dc,R,hk,rfl,rfl,hRl,aa,ae,ab⟩:=hrel;have aC:Below w.heap.size w wr:=Jn ax ab Ua;have hc:=Jg ab;have eh:=Jf ab;have bu:=ab.size;have qn:w.heap.size<wr.heap.size:=Ua
    by_cases am:k<l.length
    ·have hx:l[k]?=some l[k]:=List.getElem?_eq_getElem am;have hd:l.drop k=l[k] :: l.drop (k+1):=List.drop_eq_getElem_cons am;generalize l[k]=j at hx hd;obtain⟨m,q,rfl,hq⟩:=HG.out k j hx;have yp:m<p.eqs.length:=(List.getElem?_eq_some_iff.1 hq).1;obtain⟨bi,oi,rfl,pU,di⟩:=(hio1.later ab).get hx;obtain⟨b,off,B1,m1,B2,m2,rfl,aH,⟨g0,g1,g2,g3,g4,g5,g6,g7,g8,g9,s1,s2⟩⟩:=(bT.later aC).get hq;obtain⟨dn,gX,cM,gV,ju⟩:=jR.out q (List.mem_of_getElem? hq);have hr:=aa.out;rw [hd,Xj,Int.toNat_natCast,hq] at hr;dsimp only at hr;have lf:=Qf.of_own ae.out;have iN:=fun W h=>Jhv R q.e B2 m2 D dc W (s2.later h) (lf.later h) cM;unfold exV at iN;clear hd hx hq aa cM gV ju gX dn s1 s2 g1 g2 g3 g4 g5
     cases eY:q.e.reach (inL R)
     ·rw [eY,if_neg Ul] at hr;rw [eY] at iN;have HR:=Lib.hid hr;clear eY hr
      go_wp2_with fail
      refine Jx Ug Ug (fun bj=>?_)
      repeat (quiet_step ((first|(go_at_call 82;exact Calls.regrown_of (iN _ Jb)))))
      refine wpQuiet_nil ?_;intro wq au;replace au:=qbo au;obtain⟨au,dA,bh⟩:=au;clear bj
      (try simp at bh)
      go_wp2_with fail
      go_roundw
      case rel=>exact⟨k+1,D,dc,R,Ua,Up,rfl,Ua,HR,Lib.hid (Jy ae.out au),Jb⟩
      case measure=>simp [intOf];try omega
     ·rw [eY,if_pos rfl] at hr;rw [eY] at iN;have HR:=Lib.hid hr;clear eY hr
      go_wp2_with fail
      refine Jx Ug Ug (fun bj=>?_)
      repeat (quiet_step ((first|(go_at_call 82;exact Calls.regrown_of (iN _ Jb)))))
      refine wpQuiet_nil ?_;intro wq au;replace au:=qbo au;obtain⟨au,dA,bh⟩:=au;clear bj
      (try simp at bh)
      have dA:=Jg au;have bh:=au.size;have wB:w.heap.size<wq.heap.size:=Ua;have nw:b<wq.heap.size:=Ua;have hyq3:bi<wq.heap.size:=Ua;have hownq:=Jy ae.out au
      go_wp2_with fail
      go_region_law (first
       | (refine Jg1 rfl (.tmp 58) (.tmp 68) 121 rfl W0.heap.size 9 _ 1 16 Tryz.underlying121 Zq rfl Ua (.slice D R.length dc) R.length (R.map .string) (some ⟨wq.heap.size,0,none⟩) 1 1 [.string q.name] rfl (Js (Kp hownq)) rfl ⟨rfl,fun _=>⟨_,_,rfl,fun j u hj=>by rw [Nat.zero_add];exact(Qo Ul).trans Sg⟩⟩ Uv Ua Ua Uj ?_;intro v9 w9 dL nh;go_loud (obtain⟨A9,c9,rfl,hc91,hc92⟩:=Jv dL)))
      all_goals
       go_wp2_with fail
       go_roundw
       case rel=>exact⟨k+1,A9,c9,R ++ [q.name],Ua,Up,Ul,Uj,HR,Lib.hid (by rw [List.map_append,List.length_append];exact dL),Jb⟩
       case measure=>simp [intOf];try omega
    ·obtain rfl:k=l.length:=Ua;have hr:=aa.out;rw [List.drop_length,Xj] at hr;subst hr;have ql:=ae.out;clear aa
     go_wp2_with fail
     refine bodyPost_ret (v:= .tuple #[.slice D R.length dc,.agg #[.int .i64 0,.int .i64 0,.int .i64 0]]) (by simp [results,Tryz.results80,go_sem, *]) rfl ⟨⟨.slice D R.length dc,rfl,?_⟩,?_⟩
     ·exact Ubw
     ·(repeat refine Jh ?_)
      exact Km
theorem Jwk (B n:Nat) (f:ByteArray->Option Int) (e:Ex):∀(A:Option Addr) (cap:Nat) (w:World),Jt w e A cap->e.formed=true->e.OK->e.size<=1000000->Jz Tryz.prog 9 3 w B n f->
  Calls Tryz.prog 109 #[.map (some B),exV e A cap] w fun r w'=>r = .returned (.bool (e.torn (onM f)))/\Below w.heap.size w w':=by
 induction e using Ex.ind with
 | h e ih=>
 intro A cap w he hf aw hz hm;obtain⟨R,hR⟩:∃R,R=e.torn (onM f):=⟨_,rfl⟩;rw [<-hR];rw [Ex.torn_eq] at hR;have eY:=fun W h=>Jgc e A cap B n f W (he.later h) hf aw hz (hm.bel h);have hoks:Ex.OKL e.sub:=by cases e;simp only [Ex.OK] at aw;exact aw.2.2.2
 have hse:=Ex.size_eq e;have ot:=he.len;unfold maxLen at ot;obtain⟨hel1,hel2⟩:=ot;unfold exV at *
 by_cases hk:e.kind=10
 ·have tk:(e.kind == 10)=true:=Vw;rw [show decide (e.kind=10)=true by simpa using hk,Bool.true_and] at hR;clear hk
  cases hZ:e.reach (onM f)
  ·rw [hZ,Bool.false_or] at hR;have lv:=Lib.hid hZ;have HB:=Lib.hid (by rw [hR];rfl:Ex.tornL (onM f) (e.sub.drop 0)=R);clear hZ hR aw;exact Tw
  ·rw [hZ,Bool.true_or] at hR;have lv:=Lib.hid hZ;have HR:=Lib.hid hR.symm;clear hZ hR aw
   go_enter Tryz.func109,Tryz.ntmps109
   go_wp2_with (first|(go_at_call 108;go_loud (refine(eY _ Jb).mono ?_;rw [lv.out];rintro r wh ⟨rfl,dX⟩)))
   exact Udg
 ·have tk:(e.kind == 10)=false:=Vw;rw [show decide (e.kind=10)=false by simpa using hk,Bool.false_and,Bool.false_or] at hR;have HB:=Lib.hid (by rw [hR];rfl:Ex.tornL (onM f) (e.sub.drop 0)=R);clear hk hR aw eY;exact Tw
end Go.Proofs.YtknfcamdfdfoeaaGreatDoor
namespace Go.Proofs.YtknfcamdfdfoeaaGreatDoor
open Go.RowKit Go.Sort Go.Maps Go.ChangeMaps Go.WideMaps
theorem Jpz (p:Pr) (a:PrA) (w:World) (hg:Ql w) (hp:Kr w p a) (aw:Q4 p) (n1:p.ins.length<=1000000) (n2:p.outs.length<=1000000) (n3:p.locals.length<=1000000) (n4:p.eqs.length<=1000000) (aS:(J1 p).2≠(0,0,0)) :
  Calls Tryz.prog 71 #[prV p a] w fun r w'=>r = .returned (fV (J1 p).2)/\Below w.heap.size w w':=by
 have ap:=fun W h=>Jr6 p a W (hg.later h) (hp.later h) aw n1 n2 n3 n4 aS;clear hg aw;obtain⟨A1,c1,A2,c2,A3,c3,A4,c4⟩:=a;unfold prV fV at *;dsimp only at *;generalize (J1 p).2=O at *;obtain⟨f1,f2,f3⟩:=O;dsimp only at *
 have mA:(f1 == 0 && f2 == 0 && f3 == 0)=false:=by
  exact Ucl
 have dp:∀w,(Op.equalIn 10000 34 (.agg #[.int .i64 f1,.int .i64 f2,.int .i64 f3]) (.agg #[.int .i64 0,.int .i64 0,.int .i64 0])).run Tryz.prog w = .ok false w:=fun w=>by rw [Zr,mA]
 have fM:Tryz.prog.eqGuardType Tryz.prog.depth 34=false:=Ug;clear aS mA hp
 go_enter Tryz.func71,Tryz.ntmps71
 go_wp2_with (first|(go_at_call 107;go_loud (refine(ap _ Jb).mono ?_;rintro r wo ⟨rfl,cW⟩;have jY:=Jg cW;have lz:=Jf cW;have jB:w.heap.size+2<=wo.heap.size:=Ln;have nY:w.heap.size<wo.heap.size:=Ua;have jA:w.heap.size+1<wo.heap.size:=Ua)))
 refine bodyPost_ret (v:= .agg #[.int .i64 f1,.int .i64 f2,.int .i64 f3]) Gv rfl ⟨rfl,?_⟩
 (repeat refine Jh ?_)
 exact Km
section
variable {P:Program} {k e:TypeId} {w:World}
theorem Jdr {ops:Array Oper} {rest:List Oper} {o:Oper} {a:Act} {Q:Exit->Act->World->Prop} (hw:Region.wanted o (yielded ops a.tmps)=true) (m x:Operand) (t:TypeId) (jf:o.op=Op.lookup t m x false)
  (hk:P.underlying k=some .string) (ht:P.underlying t=some (.map k e)) (he:P.underlying e=some (.int .i64)) (hz:(zeroValue e).run P w = .ok (.int .i64 0) w)
  (b n:Nat) (f:ByteArray->Option Int) (s:ByteArray) (hm:a.eval m = .map (some b)) (ae:Jz P k e w b n f) (hx:a.eval x = .string s) (hs:s.size<=maxLen)
  (hK:wpList P ops Q rest (a.put o.dst (.int .i64 ((f s).getD 0))) w):wpList P ops Q (o :: rest) a w:=by
 obtain⟨D,h1,h2,h3⟩:=ae;obtain⟨c,eH,aY,lD⟩:=h1.lookup_int (string_keyed hk) ht he hz (keyOf_string_mk hk hs);rw [(h3 s).2] at aY;have hc:(f s).getD 0=c:=by injection aY with aY;injection aY
 rw [hc] at hK;refine wpList_step fun K' hK'=>?_;rw [if_pos hw];unfold Oper.wp;simp [execOp,jf,hm,hx,eH,Result.andThen];exact hK' _ _ hK
end
theorem Jv3 {f:ByteArray->Option Int} {l:List ByteArray} {n:ByteArray} (h:∀s,onM f s=Ka l s):∀s,onM (upd f n 1) s=Ka (l ++ [n]) s:=fun s=>by
 have hs:=h s;unfold onM at hs ⊢;rw [Jcx,Jgw];unfold upd
 by_cases hd:s.data=n.data
 ·rw [if_pos hd,hd];exact Ul
 ·exact Uce
theorem Jod (p:Pr) (a:PrA) (w:World) (hg:Ql w) (hp:Kr w p a) (aw:Q4 p) (n1:p.ins.length<=1000000) (n2:p.outs.length<=1000000) (n3:p.locals.length<=1000000) (n4:p.eqs.length<=1000000) (jM:(J1 p).2=(0,0,0)) :
  Calls Tryz.prog 71 #[prV p a] w fun r w'=>r = .returned (fV (Ks p))/\Below w.heap.size w w':=by
 have hO:Ks p=Zg (Jen p (Qs p).1) 0 p.eqs:=by unfold Ks;rw [if_pos jM]
 have aN:=(Yg jM).1;have nb:∀v∈Je p,v.name.size<=maxLen:=fun v hv=>by have:=(Jep (Xp (Xk aN).1).1 v hv).1;unfold maxLen;omega
 have mW:∀v∈Je p,v.cn.size<=maxLen:=fun v hv=>by have:=(Jep (Xp (Xk aN).1).1 v hv).2;unfold maxLen;omega
 have hos:∀v∈p.outs,v.name.size<=maxLen:=fun v hv=>nb v (by simp [Je,hv]);have dj:∀s,(J9 (Je p) s).2.size<=maxLen:=Jsa mW;have dn:=Jfo aN aw;have ap:=fun W h=>Jti p a W (hg.later h) (hp.later h) aw n1 n2 n3 n4 jM;have aJ:=fun W h=>Jcv p a W (hp.later h) n1 n2 n3;have hL3:(Je p).length<=3000000:=by simp [Je];omega
 obtain⟨h,hh⟩:∃h,h=Jen p (Qs p).1:=⟨_,rfl⟩;rw [<-hh] at hO;have hhq:∀q,h q=Jdp (q.e.torn (inL (Qs p).1)) ((J9 (Je p) q.name).1 != 0) (inL (Qs p).1 (J9 (Je p) q.name).2) (q.delay != 0) (q.e.reach (inL (Qs p).1)) (Ka (p.outs.map (·.name)) q.name) (inL (Qs p).1 q.name):=fun q=>by rw [hh];rfl
 generalize Ks p=O at *;generalize (Qs p).1=LF at *;have HO:=Lib.hid hO;have HH:=Lib.hid hhq;have HVS:=Lib.hid nb;have HOS:=Lib.hid hos;have lo:=Lib.hid dj;have jR:=Lib.hid dn;clear hO hh hhq nb mW hos dj dn jM aN hg aw;have dp:∀w,(Op.equalIn 10000 34 (.agg #[.int .i64 0,.int .i64 0,.int .i64 0]) (.agg #[.int .i64 0,.int .i64 0,.int .i64 0])).run Tryz.prog w = .ok true w:=fun w=>So;have fM:Tryz.prog.eqGuardType Tryz.prog.depth 34=false:=Ug;have gI:=@run_makeMap Tryz.prog;have gL:=hp.outs;have aD:=hp.outs.len;have bT:=hp.eqs;have cG:=hp.eqs.len;obtain⟨A1,c1,A2,c2,A3,c3,A4,c4⟩:=a;unfold maxLen at aD cG;unfold prV fV at *;dsimp only at *;obtain⟨tQ,tR⟩:=aD;obtain⟨fT,fU⟩:=cG;clear hp
 go_enter Tryz.func71,Tryz.ntmps71
 go_wp2_with (first
  | (go_at_call 107;go_loud (refine(ap _ Jb).mono ?_;rintro r wo ⟨⟨B,n,f,rfl,hB,hm,kz⟩,cW⟩;have jY:=Jg cW;have lz:=Jf cW;have jB:w.heap.size+2<=wo.heap.size:=Ln;have nY:w.heap.size<wo.heap.size:=Ua;have jA:w.heap.size+1<wo.heap.size:=Ua;have hyo2:w.heap.size<wo.heap.size+1+1+1:=Ua;have hyo3:w.heap.size<wo.heap.size+1:=Ua;have hyo4:w.heap.size<wo.heap.size+1+1:=Ua;have HAG:=Lib.hid kz;clear kz))
  | (go_at_call 42;go_loud (refine(aJ _ Jb).mono ?_;rintro r wv ⟨⟨Av,cv,rfl,ay⟩,dB⟩;have ky:=Jg dB;have lc:=Jf dB;have rP:wo.heap.size+3<=wv.heap.size:=D1;have hyv:w.heap.size<wv.heap.size:=Ua;have mt:w.heap.size+1<wv.heap.size:=Ua;have cR:=Ju.of_own ay)))
 refine Jo fun W0 ag=>?_;have ax:Below w.heap.size w W0:=Vl;have qH:Below wo.heap.size wo W0:=Vl;have eU:Jz Tryz.prog 9 3 W0 B n f:=hm.bel qH;have uG:B<wo.heap.size:=hm.lt;have fe:wo.heap.size+3<=W0.heap.size:=by rw [ag];exact rP
 have bE:Off (wo.heap.size+3) none W0 (fun W=>Ju W (Je p) Av cv):=by rw [ag];have:=Ju.off_own' ay;simpa using this
 have hmc:Jaz Tryz.prog 9 W0 (wo.heap.size+1) 0 (fun _=>none):=by
  rw [ag];have h1:=Jaz.made (P:=Tryz.prog) (k:=9) (wo.alloc (.cells #[.int .i64 0,.int .i64 0,.int .i64 0] 34));have h2:=(h1.bel (Jc (Below.refl _ _) (.map #[] 0))).bel dB;exact Lg
 have hmo:Jz Tryz.prog 9 3 W0 (wo.heap.size+1+1) 0 (fun _=>none):=by
  rw [ag];have h1:=Jz.made (P:=Tryz.prog) (k:=9) (e:=3) ((wo.alloc (.cells #[.int .i64 0,.int .i64 0,.int .i64 0] 34)).alloc (.map #[] 0));have h2:=h1.bel dB;exact Lg
 have x2:W0.cell? ⟨w.heap.size,2,none⟩=some (.slice A2 p.outs.length c2):=Uc;have x4:W0.cell? ⟨w.heap.size,4,none⟩=some (.slice A4 p.eqs.length c4):=Uc;have f0:W0.cell? ⟨w.heap.size+1,0,none⟩=some (.int .i64 0):=Uc;have f1:W0.cell? ⟨w.heap.size+1,1,none⟩=some (.int .i64 0):=Uc;have f2:W0.cell? ⟨w.heap.size+1,2,none⟩=some (.int .i64 0):=Uc;have z0:W0.frozen? ⟨w.heap.size+1,0,none⟩=false:=Uc;have z1:W0.frozen? ⟨w.heap.size+1,1,none⟩=false:=Uc;have z2:W0.frozen? ⟨w.heap.size+1,2,none⟩=false:=Uc;have cY:=bE.here.len;unfold maxLen at cY;obtain⟨fH,fI⟩:=cY;have hyo5:w.heap.size+1<wo.heap.size+1:=Ua;clear ag jY lz jB nY ky lc rP hyv mt cR ay ap aJ hm cW dB qH dp fM gI;generalize Je p=L at *
 go_loopw [30] (fun i wr=>∃(k n:Nat) (fc:ByteArray->Option Value),k<=L.length/\i = .int .i64 k/\n<=k/\Hid (Jaz Tryz.prog 9 wr (wo.heap.size+1) n fc)/\Hid (Jkd fc (L.take k))/\Hid (W0.grownBy wr (some (wo.heap.size+1)))) (fun i _=>L.length-(intOf i).toNat)
 case atStart=>exact⟨0,0,_,Nat.zero_le _,rfl,Nat.le_refl _,Lib.hid hmc,Lib.hid Jo8,Lib.hid ⟨rfl,rfl,rfl,Nat.le_refl _,fun _ _ _=>rfl⟩⟩
 case round=>
  obtain⟨k,nc,fc,hk,rfl,hn,pX,aN,bB⟩:=hrel;have eC:=bB.out.size;have iQ:Below (wo.heap.size+1) W0 wr:=J2 (Below.refl _ W0) bB.out (fun b hb=>U1) Ua;have fG:=Jdu iQ;have ej:=pX.out;have dW:=ej.lt
  by_cases am:k<L.length
  ·have hx:L[k]?=some L[k]:=List.getElem?_eq_getElem am;have aj:L[k]∈L:=List.getElem_mem am;have aP:L.take (k+1)=L.take k ++ [L[k]]:=Gy;generalize L[k]=x at hx aj aP;have jg:Ju wr L Av cv:=bE wr fun b h1 h2 _=>bB.out.block b h2 Vc;obtain⟨b,off,rfl,aH,⟨d0,d1,d2,d3⟩⟩:=jg.get hx;have dT:=HVS.out x aj;have jy:=Lib.hid (by rw [aP];exact Jmq aN.out x:Jkd (Jki fc x.name (Jcf (x.ck,x.cn))) (L.take (k+1)));clear hx aj aP jg aN
   go_wp2_with (first|(at_mapUpdate;go_loud (refine Jlj rfl (.tmp 34) (.tmp 36) (.tmp 38) 69 rfl Tryz.underlying9 Tryz.underlying69 (wo.heap.size+1) nc fc x.name (Jcf (x.ck,x.cn)) rfl (ej.keep1 (heap_alloc_old _ _ dW)) Ua rfl rfl dT ?_;intro w2 cI aG;have kj:=Lib.hid cI;have kr:=Lib.hid aG;clear cI aG)))
   go_roundw
   case rel=>exact⟨k+1,nc+1,_,Ua,Up,Ua,kj,jy,Lib.hid (Qn bB.out (Qn (World.grownBy_alloc wr _ _) kr.out))⟩
   case measure=>simp [intOf];try omega
  ·obtain rfl:k=L.length:=Ua;have mB:=aN.out;rw [List.take_length] at mB;have jy:=Lib.hid mB;clear aN mB
   go_wp2_with fail
   obtain⟨W1,rfl⟩:∃W1,W1=wr:=⟨wr,rfl⟩;have gS:Below w.heap.size w W1:=J2 ax bB.out (fun b hb=>U1) Ua;have hmo1:Jz Tryz.prog 9 3 W1 (wo.heap.size+1+1) 0 (fun _=>none):=hmo.keep1 (bB.out.block _ Ua Vc);clear fG bE dW
   go_loopw [43] (fun i wr=>∃(k n:Nat) (fo:ByteArray->Option Int),k<=p.outs.length/\i = .int .i64 k/\n<=k/\Hid (Jz Tryz.prog 9 3 wr (wo.heap.size+1+1) n fo)/\Hid (∀s,onM fo s=Ka ((p.outs.take k).map (·.name)) s)/\Hid (W1.grownBy wr (some (wo.heap.size+1+1)))) (fun i _=>p.outs.length-(intOf i).toNat)
   case atStart=>exact⟨0,0,_,Nat.zero_le _,rfl,Nat.le_refl _,Lib.hid hmo1,Lib.hid (fun s=>by unfold onM Ka;simp),Lib.hid ⟨rfl,rfl,rfl,Nat.le_refl _,fun _ _ _=>rfl⟩⟩
   case round=>
    obtain⟨k,no,fo,hk,rfl,hn,hmw2,ww,om⟩:=hrel;have hgz2:=om.out.size;have dh:Below w.heap.size w wr:=J2 gS om.out (fun b hb=>U1) Ua;have rZ:Below (wo.heap.size+1) W0 wr:=J2 iQ om.out (fun b hb=>U1) Ua;have fG:=Jdu rZ;have wZ:=Jfi rZ;have vY:=hmw2.out;have dW:=vY.lt
    by_cases am:k<p.outs.length
    ·have hx:p.outs[k]?=some p.outs[k]:=List.getElem?_eq_getElem am;have aj:p.outs[k]∈p.outs:=List.getElem_mem am;have aP:p.outs.take (k+1)=p.outs.take k ++ [p.outs[k]]:=Gy;generalize p.outs[k]=x at hx aj aP;obtain⟨b,off,rfl,aH,⟨d0,d1,d2,d3⟩⟩:=(gL.later dh).get hx;have dT:=HOS.out x aj;have HOU:=Lib.hid (by rw [aP,List.map_append];exact Jv3 ww.out:∀s,onM (upd fo x.name 1) s=Ka ((p.outs.take (k+1)).map (·.name)) s);clear hx aj aP ww
     go_wp2_with (first|(at_mapUpdate;go_loud (refine Jau rfl (.tmp 47) (.tmp 49) _ 115 rfl Tryz.underlying9 Tryz.underlying115 Tryz.underlying3 (wo.heap.size+1+1) no fo x.name 1 rfl (vY.keep1 (heap_alloc_old _ _ dW)) Ua rfl rfl dT Ua ?_;intro w2 cI aG;have kj:=Lib.hid cI;have kr:=Lib.hid aG;clear cI aG)))
     go_roundw
     case rel=>exact⟨k+1,no+1,_,Ua,Up,Ua,kj,HOU,Lib.hid (Qn om.out (Qn (World.grownBy_alloc wr _ _) kr.out))⟩
     case measure=>simp [intOf];try omega
    ·obtain rfl:k=p.outs.length:=Ua;have vZ:=ww.out;rw [List.take_length] at vZ;have HOU:=Lib.hid vZ;clear ww vZ;have qn:w.heap.size<wr.heap.size:=Ua
     go_wp2_with fail
     obtain⟨W2,rfl⟩:∃W2,W2=wr:=⟨wr,rfl⟩;have gZ:Jz Tryz.prog 9 3 W2 B n f:=eU.keep1 (rZ.block B Ua);have jH:Jaz Tryz.prog 9 W2 (wo.heap.size+1) nc fc:=ej.keep1 (om.out.block _ Ua Vc);clear ej eU hmo hmo1 hmc pX hmw2 bB om eC hgz2 iQ rZ
     go_loopw [54] (fun i wr=>∃k:Nat,k<=p.eqs.length/\i = .int .i64 k/\Hid (Zg h k (p.eqs.drop k)=O)/\Below W2.heap.size W2 wr) (fun i _=>p.eqs.length-(intOf i).toNat)
     case atStart=>exact⟨0,Nat.zero_le _,rfl,Lib.hid (by rw [List.drop_zero];exact HO.out.symm),Below.refl _ _⟩
     case round=>
      obtain⟨k,hk,rfl,aa,ab⟩:=hrel;have aC:Below w.heap.size w wr:=Jn dh ab Ua;have hc:=Jg ab;have eh:=Jf ab;have bu:=ab.size;have tL:w.heap.size<wr.heap.size:=Ua;have wD:w.heap.size+1<wr.heap.size:=Ua;have sh:w.heap.size+1<W2.heap.size:=Ua;have hw3:w.heap.size+1<wr.heap.size+1+1:=Ua;have hw4:w.heap.size+1<wr.heap.size+1:=Ua;have hw5:w.heap.size<wr.heap.size+1+1:=Ua;have hw6:w.heap.size<wr.heap.size+1:=Ua
      by_cases am:k<p.eqs.length
      ·obtain⟨q,hx,-,hd⟩:=Kl am;obtain⟨b,off,B1,n1,B2,n2,rfl,aH,⟨g0,g1,g2,g3,g4,g5,g6,g7,g8,g9,s1,s2⟩⟩:=(bT.later aC).get hx;have hr:=aa.out;rw [hd,Zg,HH.out q] at hr;obtain⟨dn,gX,cM,gV,ju⟩:=jR.out q (List.mem_of_getElem? hx);have kz:=HAG.out;obtain⟨ck,cs,bO⟩:∃ck cs,J9 L q.name=(ck,cs):=⟨_,_,rfl⟩;have sa:=lo.out q.name;rw [bO] at hr sa;dsimp only at hr sa;rw [<-kz.reach,<-Jsc kz,<-kz cs,<-kz q.name,<-HOU.out q.name] at hr;have mK:=Lib.hid bO;have oq:=gZ.bel ab;have hmkr:=jH.bel ab;have hmor:=vY.bel ab;have hZ:=fun W hb=>Jgc q.e B2 n2 B n f W (s2.later hb) cM gV ju (oq.bel hb);have sb:=fun W hb=>Jwk B n f q.e B2 n2 W (s2.later hb) cM gV ju (oq.bel hb);obtain⟨vt,eQ⟩:∃b,b=q.e.torn (onM f):=⟨_,rfl⟩;obtain⟨vr,jg⟩:∃b,b=q.e.reach (onM f):=⟨_,rfl⟩;obtain⟨vc,mW⟩:∃b,(ck != 0)=b:=⟨_,rfl⟩;obtain⟨vd,zW⟩:∃b,(q.delay != 0)=b:=⟨_,rfl⟩;obtain⟨vl,ng⟩:∃b,onM f cs=b:=⟨_,rfl⟩;obtain⟨vo,hvo⟩:∃b,onM fo q.name=b:=⟨_,rfl⟩;obtain⟨vs,nb⟩:∃b,onM f q.name=b:=⟨_,rfl⟩;rw [<-eQ] at sb;rw [<-jg] at hZ;rw [<-eQ,<-jg,mW,zW,ng,hvo,nb] at hr;unfold onM at ng hvo nb;unfold exV at hZ sb;clear eQ jg hd hx aa gX cM gV ju kz s1 s2 bO
       rcases Jud vt vc vl vd vr vo vs with ⟨rfl,rfl|rfl,rfl|rfl,hh⟩|⟨rfl,rfl,rfl,rfl|rfl,rfl|rfl,hh⟩|⟨rfl,⟨rfl,rfl⟩|rfl,rfl,rfl,rfl|rfl,hh⟩|⟨rfl,⟨rfl,rfl⟩|rfl,⟨rfl,rfl⟩|rfl,rfl,rfl,hh⟩|⟨rfl,⟨rfl,rfl⟩|rfl,⟨rfl,rfl⟩|rfl,⟨rfl,rfl⟩|rfl,hh⟩
       iterate 16
        ·rw [hh,if_pos rfl] at hr;have HR:=Lib.hid hr;clear hr hh
         go_wp2_with (first
          | (at_lookup;go_loud (refine Jel rfl (.tmp 59) (.tmp 61) 69 rfl Tryz.underlying9 Tryz.underlying69 (Jcf (0,⟨#[]⟩)) (Jfz _) (wo.heap.size+1) nc fc q.name rfl (hmkr.bel Jb) rfl dn ?_;rw [jy.out q.name,mK.out];unfold Jcf))
          | (go_at_call 108;go_loud (refine(hZ _ Jb).mono ?_;rintro r w1 ⟨rfl,ac⟩;have ak:=Jg ac;have db:=Jf ac;have af:wr.heap.size+2<=w1.heap.size:=V9;have dG:w.heap.size<w1.heap.size:=Ua;have cA:w.heap.size+1<w1.heap.size:=Ua;have kh:wr.heap.size<w1.heap.size:=Ua;have ly:wr.heap.size+1<w1.heap.size:=Ua))
          | (at_lookup;go_loud (refine Qb rfl (.tmp 72) (.tmp 74) 115 rfl Tryz.underlying9 Tryz.underlying115 Tryz.underlying3 (Kj _) (wo.heap.size+1+1) no fo q.name rfl (hmor.bel Jb) rfl dn ?_))
          | (at_lookup;go_loud (refine Jdr Gd (.tmp 78) (.tmp 80) 179 rfl Tryz.underlying9 Tryz.underlying179 Tryz.underlying3 (Kj _) B n f q.name rfl (oq.bel Jb) rfl dn ?_))
          | (at_lookup;go_loud (refine Jdr Gd (.tmp 93) (.tmp 95) 179 rfl Tryz.underlying9 Tryz.underlying179 Tryz.underlying3 (Kj _) B n f cs rfl (oq.bel Jb) rfl sa ?_))
          | (go_at_call 109;go_loud (refine(sb _ Jb).mono ?_;rintro r w3 ⟨rfl,aM⟩;have kE:=Jg aM;have tx:=Jf aM;have hz3':wr.heap.size+2<=w3.heap.size:=(by have:=aM.size;(try simp at this);omega);have hye:w.heap.size<w3.heap.size:=Ua;have rU:w.heap.size+1<w3.heap.size:=Ua;have ox:wr.heap.size<w3.heap.size:=Ua;have iZ:wr.heap.size+1<w3.heap.size:=Ua)))
         refine bodyPost_ret (v:= .agg #[.int .i64 3,.int .i64 (k:Int),.int .i64 23]) Gv rfl ⟨Tg,?_⟩
         (repeat refine Jh ?_)
         exact Km
       iterate 8
        ·rw [hh,if_neg Ul] at hr;have HR:=Lib.hid hr;clear hr hh
         go_wp2_with (first
          | (at_lookup;go_loud (refine Jel rfl (.tmp 59) (.tmp 61) 69 rfl Tryz.underlying9 Tryz.underlying69 (Jcf (0,⟨#[]⟩)) (Jfz _) (wo.heap.size+1) nc fc q.name rfl (hmkr.bel Jb) rfl dn ?_;rw [jy.out q.name,mK.out];unfold Jcf))
          | (go_at_call 108;go_loud (refine(hZ _ Jb).mono ?_;rintro r w1 ⟨rfl,ac⟩;have ak:=Jg ac;have db:=Jf ac;have af:wr.heap.size+2<=w1.heap.size:=V9;have dG:w.heap.size<w1.heap.size:=Ua;have cA:w.heap.size+1<w1.heap.size:=Ua;have kh:wr.heap.size<w1.heap.size:=Ua;have ly:wr.heap.size+1<w1.heap.size:=Ua))
          | (at_lookup;go_loud (refine Qb rfl (.tmp 72) (.tmp 74) 115 rfl Tryz.underlying9 Tryz.underlying115 Tryz.underlying3 (Kj _) (wo.heap.size+1+1) no fo q.name rfl (hmor.bel Jb) rfl dn ?_))
          | (at_lookup;go_loud (refine Jdr Gd (.tmp 78) (.tmp 80) 179 rfl Tryz.underlying9 Tryz.underlying179 Tryz.underlying3 (Kj _) B n f q.name rfl (oq.bel Jb) rfl dn ?_))
          | (at_lookup;go_loud (refine Jdr Gd (.tmp 93) (.tmp 95) 179 rfl Tryz.underlying9 Tryz.underlying179 Tryz.underlying3 (Kj _) B n f cs rfl (oq.bel Jb) rfl sa ?_))
          | (go_at_call 109;go_loud (refine(sb _ Jb).mono ?_;rintro r w3 ⟨rfl,aM⟩;have kE:=Jg aM;have tx:=Jf aM;have hz3':wr.heap.size+2<=w3.heap.size:=(by have:=aM.size;(try simp at this);omega);have hye:w.heap.size<w3.heap.size:=Ua;have rU:w.heap.size+1<w3.heap.size:=Ua;have ox:wr.heap.size<w3.heap.size:=Ua;have iZ:wr.heap.size+1<w3.heap.size:=Ua)))
         exact Uee
      ·obtain rfl:k=p.eqs.length:=Ua;have hr:=aa.out;rw [List.drop_length,Zg] at hr;have HR:=Lib.hid hr;clear hr aa
       go_wp2_with fail
       refine bodyPost_ret (v:= .agg #[.int .i64 0,.int .i64 0,.int .i64 0]) Gv rfl ⟨Tg,?_⟩
       (repeat refine Jh ?_)
       exact Km
end Go.Proofs.YtknfcamdfdfoeaaGreatDoor
namespace Go.Proofs.YtknfcamdfdfoeaaGreatDoor
open Go.RowKit Go.Sort
theorem Jpj {p:Pr} (h:(J1 p).2≠(0,0,0)):(J1 p).2.2.2≠0:=by
 unfold J1 at h ⊢
 by_cases aN:Qg p=(0,0,0)
 ·rw [if_pos aN] at h ⊢
  rcases Jiu (Xk aN).1 with ⟨res,h1,_⟩|⟨out,m,q,h1,_⟩
  ·rw [h1] at h;exact absurd rfl h
  ·rw [h1];show(22:Int)≠0
   decide
 ·rw [if_neg aN];exact Jxh aN
theorem Jk3 (p:Pr) (a:PrA) (w:World) (hg:Ql w) (hp:Kr w p a) (aw:Q4 p) (n1:p.ins.length<=1000000) (n2:p.outs.length<=1000000) (n3:p.locals.length<=1000000) (n4:p.eqs.length<=1000000) :
  Calls Tryz.prog 71 #[prV p a] w fun r w'=>r = .returned (fV (Ks p))/\Below w.heap.size w w':=by
 by_cases hO:(J1 p).2=(0,0,0)
 ·exact Jod p a w hg hp aw n1 n2 n3 n4 hO
 ·have h:=Jpz p a w hg hp aw n1 n2 n3 n4 hO;rw [show Ks p=(J1 p).2 by unfold Ks;rw [if_neg hO]];exact h
theorem Jnx (p:Pr) (a:PrA) (w:World) (hp:Kr w p a) (aw:Q4 p) (n1:p.ins.length<=1000000) (n2:p.outs.length<=1000000) (n3:p.locals.length<=1000000) (n4:p.eqs.length<=1000000) (aS:(J1 p).2.2.2≠0) :
  Calls Tryz.prog 48 #[prV p a] w fun r w'=>r = .returned (fV (J1 p).2)/\Below w.heap.size w w':=by
 have nZ:=fun W h=>Jq1 p a W (hp.later h) aw n1 n2 n3 n4 aS;clear aw;obtain⟨A1,c1,A2,c2,A3,c3,A4,c4⟩:=a;unfold prV fV at *;dsimp only at *;generalize (J1 p).2=O at *;obtain⟨f1,f2,f3⟩:=O;dsimp only at *;have t1:(f3 != 0)=true:=Se;clear aS hp
 go_enter Tryz.func48,Tryz.ntmps48
 go_wp2_with (first|(go_at_call 80;go_loud (refine(nZ _ Jb).mono ?_;rintro r wo ⟨rfl,cW⟩;have jY:=Jg cW;have lz:=Jf cW;have jB:w.heap.size+2<=wo.heap.size:=Ln;have nY:w.heap.size<wo.heap.size:=Ua;have jA:w.heap.size+1<wo.heap.size:=Ua)))
 refine bodyPost_ret (v:= .agg #[.int .i64 f1,.int .i64 f2,.int .i64 f3]) Gu rfl ⟨rfl,?_⟩
 (repeat refine Jh ?_)
 exact Km
theorem Jnw (p:Pr) (a:PrA) (w:World) (hp:Kr w p a) (aw:Q4 p) (n1:p.ins.length<=1000000) (n2:p.outs.length<=1000000) (n3:p.locals.length<=1000000) (n4:p.eqs.length<=1000000) (jM:(J1 p).2=(0,0,0)) :
  Calls Tryz.prog 48 #[prV p a] w fun r w'=>r = .returned (fV (Ks p))/\Below w.heap.size w w':=by
 have hO:Ks p=Zg (Jen p (Qs p).1) 0 p.eqs:=by unfold Ks;rw [if_pos jM]
 have dn:=Jfo (Yg jM).1 aw;have hhr:=fun q hq=>Jwl (p:=p) jM (q:=q) hq;have nZ:=fun W h=>Jq4 p a W (hp.later h) aw n1 n2 n3 n4 jM;have aJ:=fun W h=>Z3 p a W (hp.later h) n1 n2 n3;obtain⟨h,hh⟩:∃h,h=Jen p (Qs p).1:=⟨_,rfl⟩;rw [<-hh] at hO hhr;generalize Ks p=O at *;generalize (Qs p).1=LF at *;have HO:=Lib.hid hO;have HHR:=Lib.hid hhr;have jR:=Lib.hid dn;clear hO hh hhr dn jM aw;have bT:=hp.eqs;have bI:=hp.ins.len;have aD:=hp.outs.len;have cG:=hp.eqs.len;obtain⟨A1,c1,A2,c2,A3,c3,A4,c4⟩:=a;unfold maxLen at bI aD cG;unfold prV fV at *;dsimp only at *;obtain⟨tO,tP⟩:=bI;obtain⟨tQ,tR⟩:=aD;obtain⟨fT,fU⟩:=cG;clear hp
 go_enter Tryz.func48,Tryz.ntmps48
 go_wp2_with (first
  | (go_at_call 80;go_loud (refine(nZ _ Jb).mono ?_;rintro r wo ⟨⟨vo,rfl,ay⟩,cW⟩;obtain⟨Ao,co,rfl,ln,jm⟩:=Jv ay;have hlo:=Qf.of_own ay;have jY:=Jg cW;have lz:=Jf cW;have jB:w.heap.size+2<=wo.heap.size:=Ln;have nY:w.heap.size<wo.heap.size:=Ua;have jA:w.heap.size+1<wo.heap.size:=Ua;have hyo3:w.heap.size<wo.heap.size+1:=Ua;have hyo4:w.heap.size+1<wo.heap.size+1:=Ua;clear ay))
  | (go_at_call 26;go_loud (refine(aJ _ Jb).mono ?_;rintro r wv ⟨⟨Av,cv,rfl,ay⟩,dB⟩;have ky:=Jg dB;have lc:=Jf dB;have rP:wo.heap.size+1<=wv.heap.size:=D1;have hyv:w.heap.size<wv.heap.size:=Ua;have mt:w.heap.size+1<wv.heap.size:=Ua;have cR:=Ju.of_own ay;clear ay)))
 refine Jo fun W0 ag=>?_;have ax:Below w.heap.size w W0:=Vl;have qH:Below wo.heap.size wo W0:=Vl;have qI:Qf W0 LF Ao co:=hlo.later qH;have bE:Ju W0 (Je p) Av cv:=Do;have bD:w.heap.size+1<W0.heap.size:=by rw [ag];exact mt
 have rx:w.heap.size<W0.heap.size:=Ua;have x1:W0.cell? ⟨w.heap.size,1,none⟩=some (.slice A1 p.ins.length c1):=Uc;have x2:W0.cell? ⟨w.heap.size,2,none⟩=some (.slice A2 p.outs.length c2):=Uc;have x4:W0.cell? ⟨w.heap.size,4,none⟩=some (.slice A4 p.eqs.length c4):=Uc;have f0:W0.cell? ⟨w.heap.size+1,0,none⟩=some (.int .i64 0):=Uc;have f1:W0.cell? ⟨w.heap.size+1,1,none⟩=some (.int .i64 0):=Uc;have f2:W0.cell? ⟨w.heap.size+1,2,none⟩=some (.int .i64 0):=Uc;have z0:W0.frozen? ⟨w.heap.size+1,0,none⟩=false:=Uc;have z1:W0.frozen? ⟨w.heap.size+1,1,none⟩=false:=Uc;have z2:W0.frozen? ⟨w.heap.size+1,2,none⟩=false:=Uc;have cY:=bE.len;unfold maxLen at cY;obtain⟨fH,fI⟩:=cY;clear ag jY lz jB nY jA hyo3 hyo4 ky lc rP hyv mt cR nZ aJ hlo cW dB qH;generalize Je p=L at *
 go_loopw [6] (fun i wr=>∃k:Nat,k<=p.eqs.length/\i = .int .i64 k/\Hid (Zg h k (p.eqs.drop k)=O)/\Below W0.heap.size W0 wr) (fun i _=>p.eqs.length-(intOf i).toNat)
 case atStart=>exact⟨0,Nat.zero_le _,rfl,Lib.hid (by rw [List.drop_zero];exact HO.out.symm),Below.refl _ _⟩
 case round=>
  obtain⟨k,hk,rfl,aa,ab⟩:=hrel;have aC:Below w.heap.size w wr:=Jn ax ab Ua;have hc:=Jg ab;have eh:=Jf ab;have bu:=ab.size;have tL:w.heap.size<wr.heap.size:=Ua;have wD:w.heap.size+1<wr.heap.size:=Ua;have hw4:w.heap.size+1<wr.heap.size+1:=Ua;have hw6:w.heap.size<wr.heap.size+1:=Ua
  by_cases am:k<p.eqs.length
  ·obtain⟨q,hx,-,hd⟩:=Kl am;obtain⟨b,off,B1,n1,B2,n2,rfl,aH,⟨g0,g1,g2,g3,g4,g5,g6,g7,g8,g9,s1,s2⟩⟩:=(bT.later aC).get hx;have hr:=aa.out;obtain⟨dn,gX,cM,gV,ju⟩:=jR.out q (List.mem_of_getElem? hx);obtain⟨j,v,cL,oE,hhq⟩:=HHR.out q (List.mem_of_getElem? hx);rw [hd,Zg,hhq] at hr;have mX:j<L.length:=(List.getElem?_eq_some_iff.1 oE).1;obtain⟨bv,ov,rfl,dB,⟨d0,d1,d2,d3⟩⟩:=(bE.later ab).get oE;have jS:=fun W hb=>Xa L (some ⟨bv,ov,none⟩) cv q.name W ((bE.later ab).later hb);rw [cL] at jS;have kq:=qI.later ab;have iN:=fun W hb=>Jhv LF q.e B2 n2 Ao co W (s2.later hb) (kq.later hb) cM;have sb:=fun W hb=>Jvb LF q.e B2 n2 Ao co W (s2.later hb) (kq.later hb) cM;obtain⟨vt,eQ⟩:∃b,b=q.e.torn (inL LF):=⟨_,rfl⟩;obtain⟨vr,jg⟩:∃b,b=q.e.reach (inL LF):=⟨_,rfl⟩;obtain⟨vh,hvh⟩:∃b,Ka LF v.cn=b:=⟨_,rfl⟩;obtain⟨vs,nb⟩:∃b,Ka LF q.name=b:=⟨_,rfl⟩;obtain⟨vd,zW⟩:∃b,(q.delay != 0)=b:=⟨_,rfl⟩;obtain⟨vo,hvo⟩:∃b,decide ((j:Int)<(p.ins.length:Int)+(p.outs.length:Int))=b:=⟨_,rfl⟩;rw [<-eQ] at sb;rw [<-jg] at iN;rw [<-eQ,<-jg,hvh,nb,zW,hvo] at hr;have HVH:=Lib.hid hvh;have HVS:=Lib.hid nb;have tj:(0:Int)<=(j:Int):=Ua;unfold exV at iN sb;clear eQ jg hvh nb hd hx aa gX cM gV ju s1 s2 hhq cL oE d0 d1 d2
   rcases Jsm vt vh vd vr vo vs with ⟨rfl,hh⟩|⟨rfl,rfl,hh⟩|⟨rfl,rfl,rfl,rfl,hh⟩|⟨rfl,rfl,⟨rfl,rfl⟩|rfl,rfl,rfl,hh⟩|⟨rfl,rfl,⟨rfl,rfl⟩|rfl,⟨rfl,rfl⟩|rfl,hh⟩
   iterate 5
    ·rw [hh,if_pos rfl] at hr;have HR:=Lib.hid hr;clear hr hh
     go_wp2_with (first
      | (go_at_call 49;go_loud (refine(jS _ Jb).mono ?_;rintro r w1 ⟨rfl,ac⟩;have ak:=Jg ac;have db:=Jf ac;have af:wr.heap.size+1<=w1.heap.size:=V9;have dG:w.heap.size<w1.heap.size:=Ua;have cA:w.heap.size+1<w1.heap.size:=Ua;have kh:wr.heap.size<w1.heap.size:=Ua;have qZ:bv<w1.heap.size:=Ua))
      | (go_at_call 81;go_loud (refine(sb _ Jb).mono ?_;rintro r w2 ⟨rfl,aq⟩;have dm:=Jg aq;have gO:=Jf aq;have br:=aq.size;have ly:w.heap.size<w2.heap.size:=Ua;have hye:w.heap.size+1<w2.heap.size:=Ua;have rU:wr.heap.size<w2.heap.size:=Ua;have hyy:bv<w2.heap.size:=Ua))
      | (go_at_call_of 54 (Value.string q.name);go_loud (refine(Yu LF Ao co q.name _ (qI.later Jb)).mono ?_;rw [HVS.out];rintro r w5 ⟨rfl,da⟩;have vL:=Jg da;have hf5:=Jf da;have yx:=da.size;have hyp:w.heap.size+1<w5.heap.size:=Ua))
      | (go_at_call 54;go_loud (refine(Yu LF Ao co v.cn _ (qI.later Jb)).mono ?_;rw [HVH.out];rintro r w3 ⟨rfl,aM⟩;have kE:=Jg aM;have tx:=Jf aM;have fe:=aM.size;have ox:w.heap.size<w3.heap.size:=Ua;have iZ:w.heap.size+1<w3.heap.size:=Ua;have hyi:wr.heap.size<w3.heap.size:=Ua))
      | (go_at_call 82;go_loud (refine(iN _ Jb).mono ?_;rintro r w4 ⟨rfl,ei⟩;have wA:=Jg ei;have hf4:=Jf ei;have qS:=ei.size;have hyj:w.heap.size<w4.heap.size:=Ua;have hyk:w.heap.size+1<w4.heap.size:=Ua;have hyl:wr.heap.size<w4.heap.size:=Ua)))
     refine bodyPost_ret (v:= .agg #[.int .i64 3,.int .i64 (k:Int),.int .i64 23]) Gu rfl ⟨Tg,?_⟩
     (repeat refine Jh ?_)
     exact Km
   iterate 4
    ·rw [hh,if_neg Ul] at hr;have HR:=Lib.hid hr;clear hr hh
     go_wp2_with (first
      | (go_at_call 49;go_loud (refine(jS _ Jb).mono ?_;rintro r w1 ⟨rfl,ac⟩;have ak:=Jg ac;have db:=Jf ac;have af:wr.heap.size+1<=w1.heap.size:=V9;have dG:w.heap.size<w1.heap.size:=Ua;have cA:w.heap.size+1<w1.heap.size:=Ua;have kh:wr.heap.size<w1.heap.size:=Ua;have qZ:bv<w1.heap.size:=Ua))
      | (go_at_call 81;go_loud (refine(sb _ Jb).mono ?_;rintro r w2 ⟨rfl,aq⟩;have dm:=Jg aq;have gO:=Jf aq;have br:=aq.size;have ly:w.heap.size<w2.heap.size:=Ua;have hye:w.heap.size+1<w2.heap.size:=Ua;have rU:wr.heap.size<w2.heap.size:=Ua;have hyy:bv<w2.heap.size:=Ua))
      | (go_at_call_of 54 (Value.string q.name);go_loud (refine(Yu LF Ao co q.name _ (qI.later Jb)).mono ?_;rw [HVS.out];rintro r w5 ⟨rfl,da⟩;have vL:=Jg da;have hf5:=Jf da;have yx:=da.size;have hyp:w.heap.size+1<w5.heap.size:=Ua))
      | (go_at_call 54;go_loud (refine(Yu LF Ao co v.cn _ (qI.later Jb)).mono ?_;rw [HVH.out];rintro r w3 ⟨rfl,aM⟩;have kE:=Jg aM;have tx:=Jf aM;have fe:=aM.size;have ox:w.heap.size<w3.heap.size:=Ua;have iZ:w.heap.size+1<w3.heap.size:=Ua;have hyi:wr.heap.size<w3.heap.size:=Ua))
      | (go_at_call 82;go_loud (refine(iN _ Jb).mono ?_;rintro r w4 ⟨rfl,ei⟩;have wA:=Jg ei;have hf4:=Jf ei;have qS:=ei.size;have hyj:w.heap.size<w4.heap.size:=Ua;have hyk:w.heap.size+1<w4.heap.size:=Ua;have hyl:wr.heap.size<w4.heap.size:=Ua)))
     exact Uee
  ·obtain rfl:k=p.eqs.length:=Ua;have hr:=aa.out;rw [List.drop_length,Zg] at hr;have HR:=Lib.hid hr;clear hr aa
   go_wp2_with fail
   refine bodyPost_ret (v:= .agg #[.int .i64 0,.int .i64 0,.int .i64 0]) Gu rfl ⟨Tg,?_⟩
   (repeat refine Jh ?_)
   exact Km
theorem Jjw (p:Pr) (a:PrA) (w:World) (hp:Kr w p a) (aw:Q4 p) (n1:p.ins.length<=1000000) (n2:p.outs.length<=1000000) (n3:p.locals.length<=1000000) (n4:p.eqs.length<=1000000) :
  Calls Tryz.prog 48 #[prV p a] w fun r w'=>r = .returned (fV (Ks p))/\Below w.heap.size w w':=by
 by_cases hO:(J1 p).2=(0,0,0)
 ·exact Jnw p a w hp aw n1 n2 n3 n4 hO
 ·have h:=Jnx p a w hp aw n1 n2 n3 n4 (Jpj hO);rw [show Ks p=(J1 p).2 by unfold Ks;rw [if_neg hO]];exact h
end Go.Proofs.YtknfcamdfdfoeaaGreatDoor
