/- Lemmas. -/
import Derived.Test.YtknfcamdfdfoeaaGreatDoorMac
import Derived.Laws.StructEq
import Derived.Test.YtknfcamdfdfoeaaGreatDoorZ06
import Derived.Test.YtknfcamdfdfoeaaGreatDoorZ00
import Derived.Test.YtknfcamdfdfoeaaGreatDoorZ27
import Derived.Test.YtknfcamdfdfoeaaGreatDoorZ09
import Derived.Test.YtknfcamdfdfoeaaGreatDoorZ13
import Derived.Test.YtknfcamdfdfoeaaGreatDoorZ22
import Derived.Test.YtknfcamdfdfoeaaGreatDoorZ10
import Derived.IntWalk
set_option linter.unusedVariables false
set_option linter.unusedSimpArgs false
set_option maxRecDepth 100000
set_option maxHeartbeats 64000000
namespace Go.Proofs.YtknfcamdfdfoeaaGreatDoor
open Go.RowKit Go.Sort
theorem Jf9 (e:Ex):∀(y:Ex) (A:Option Addr) (cap:Nat) (A2:Option Addr) (cap2:Nat) (w:World),Jt w e A cap->Jt w y A2 cap2->
  Calls Tryz.prog 33 #[exV e A cap,exV y A2 cap2] w fun r w'=>r = .returned (.bool (e.same y))/\Below w.heap.size w w':=by
 induction e using Ex.ind with
 | h e ih=>
 intro y A cap A2 cap2 w he hy;have hl:=he.len;have qM:=hy.len;unfold maxLen at hl qM;obtain⟨bI,aD⟩:=hl;obtain⟨fD,cG⟩:=qM;have hv:=Ex.same_eq e y;unfold exV
 cases h1:(e.kind != y.kind)
 case true=>
   rw [Jgo h1,Bool.false_and,Bool.false_and,Bool.false_and,Bool.false_and] at hv;exact Uch
 rw [Jgi h1,Bool.true_and] at hv
 cases h2:(e.n != y.n)
 case true=>
   rw [Jgo h2,Bool.false_and,Bool.false_and,Bool.false_and] at hv;exact Uch
 rw [Jgi h2,Bool.true_and] at hv
 cases h3:(e.name.toList == y.name.toList)
 case false=>
   rw [h3,Bool.false_and,Bool.false_and] at hv;exact Uch
 rw [h3,Bool.true_and] at hv
 cases h4:((e.sub.length:Int) != y.sub.length)
 case true=>
   have oh:(e.sub.length == y.sub.length)=false:=by {simp at h4;simp;omega};rw [oh,Bool.false_and] at hv;clear oh
   exact Uch
 have oh:e.sub.length=y.sub.length:=by have:=Jei h4;omega
 rw [oh,beq_self_eq_true,Bool.true_and] at hv;have HV:=Lib.hid hv;clear hv;have H4:=Lib.hid oh;clear oh
 go_enter Tryz.func33,Tryz.ntmps33
 go_wp2_with fail
 go_loopw [5] (fun i wr=>∃(k:Nat),k<=e.sub.length/\i = .int .i64 k/\Ex.sameL (e.sub.drop k) (y.sub.drop k)=e.same y/\wr.cell? ⟨w.heap.size+1,3,none⟩=some (.slice A2 y.sub.length cap2)/\wr.cell? ⟨w.heap.size,3,none⟩=some (.slice A e.sub.length cap)/\Below w.heap.size w wr) (fun i _=>e.sub.length-(intOf i).toNat)
 case atStart=>exact⟨0,Nat.zero_le _,rfl,Td,Uq,Uq,Jb⟩
 case round=>
  obtain⟨k,hk,rfl,aa,vV,hbox1,ab⟩:=hrel;have gt:=block_lt_of_cell vV;dsimp only at gt;have hbz':w.heap.size<wr.heap.size:=Ua
  by_cases am:k<e.sub.length
  ·have dO:k<y.sub.length:=by have:=H4.out;omega
   obtain⟨x,hx,aj,hd⟩:=Kl am;obtain⟨b,off,A',cap',rfl,c0,c1,c2,c3,hs⟩:=(he.later ab).get hx;have qh:y.sub[k]?=some y.sub[k]:=List.getElem?_eq_getElem dO;have gN:y.sub.drop k=y.sub[k] :: y.sub.drop (k+1):=List.drop_eq_getElem_cons dO;generalize y.sub[k]=x2 at qh gN;obtain⟨b2,off2,A2',cap2',rfl,g0,g1,g2,g3,gq⟩:=(hy.later ab).get qh;rw [hd,gN,Ex.sameL] at aa;have ihx:=ih x aj;have aq:=block_lt_of_cell g0;dsimp only at aq;have iJ:b2<wr.heap.size+1:=Ua;have eM:b<wr.heap.size:=block_lt_of_cell c0
   cases jN:x.same x2
   ·rw [jN] at aa;have HR:=Lib.hid aa;clear aa hd gN hx qh
    go_wp2_with fail
    refine Jx Ug Ug (fun bj=>?_)
    repeat (quiet_step ((go_at_call 33;exact Calls.regrown_of (ihx x2 _ _ _ _ _ (hs.later Jb) (gq.later Jb)))))
    exact Ubt
   ·rw [jN] at aa;have HR:=Lib.hid aa;clear aa hd gN hx qh
    go_wp2_with fail
    refine Jx Ug Ug (fun bj=>?_)
    repeat (quiet_step ((go_at_call 33;exact Calls.regrown_of (ihx x2 _ _ _ _ _ (hs.later Jb) (gq.later Jb)))))
    refine wpQuiet_nil ?_;intro wq au;replace au:=qbo au;obtain⟨au,dA,bh⟩:=au;clear bj
    (try simp at bh)
    go_wp2_with fail
    go_roundw
    case rel=>exact⟨k+1,Ua,Up,HR.out,Udo,Udo,Jb⟩
    case measure=>simp [intOf];omega
  ·exact Ubu
mutual
theorem Ex.same_refl:∀e:Ex,e.same e=true
 | .mk k n s l=>by
  have h:=Ex.sameL_refl l;simp [Ex.same,Ex.kind,Ex.n,Ex.name,Ex.sub,h]
theorem Ex.sameL_refl:∀l:List Ex,Ex.sameL l l=true
 | []=>by simp [Ex.sameL]
 | x :: l=>by
  have h1:=Ex.same_refl x;have h2:=Ex.sameL_refl l;simp [Ex.sameL,h1,h2]
end
theorem Jvj (v:Va) (w:World):(Op.equalIn 10000 57 (.agg #[.string v.name,.int .i64 v.type,.int .i64 v.ck,.string v.cn]) (.agg #[.string v.name,.int .i64 v.type,.int .i64 v.ck,.string v.cn])).run Tryz.prog w = .ok true w:=by
 have hS:Tryz.prog.underlying 57=some (.struct (Tryz.prog.fieldsOf 57)):=Ug;have hp:Tryz.prog.stoodInHeld 57=false:=Ug;have dk:Tryz.prog.underlying 55=some (.struct (Tryz.prog.fieldsOf 55)):=Ug;have gL:Tryz.prog.stoodInHeld 55=false:=Ug
 have h2:∀w,(Op.equalIn 9999 55 (.agg #[.int .i64 v.ck,.string v.cn]) (.agg #[.int .i64 v.ck,.string v.cn])).run Tryz.prog w = .ok true w:=by
  intro w;rw [show(9999:Nat)=9998+1 from rfl,run_equalIn_agg w 9998 55 _ _ dk gL];simp only [Program.fieldsOf,Tryz.underlying55];exact Uq
 rw [show(10000:Nat)=9999+1 from rfl,run_equalIn_agg w 9999 57 _ _ hS hp];simp only [Program.fieldsOf,Tryz.underlying57];exact Uq
theorem Jz8:Tryz.prog.eqGuardType Tryz.prog.depth 57=false:=Ug
theorem Jd7 (l:List Va) (A:Option Addr) (cap:Nat) (B:Option Addr) (capb:Nat) (w:World) (hl:Ju w l A cap) (hm:Ju w l B capb) :
  Calls Tryz.prog 32 #[.slice A l.length cap,.slice B l.length capb] w fun r w'=>r = .returned (.bool true)/\Below w.heap.size w w':=by
 have ai:=hl.len;unfold maxLen at ai;obtain⟨jD,jE⟩:=ai;have na:=hm.len;unfold maxLen at na;obtain⟨hlen4,hlen5⟩:=na;have fM:=Jz8
 go_enter Tryz.func32,Tryz.ntmps32
 go_wp2_with fail
 go_loopw [5] (fun i wr=>∃k:Nat,k<=l.length/\i = .int .i64 k/\Below w.heap.size w wr) (fun i _=>l.length-(intOf i).toNat)
 case atStart=>exact⟨0,Nat.zero_le _,rfl,Jb⟩
 case round=>
  obtain⟨k,hk,rfl,ab⟩:=hrel
  by_cases am:k<l.length
  ·obtain⟨x,hx,-,hd⟩:=Kl am;obtain⟨b,off,rfl,aH,⟨d0,d1,d2,d3⟩⟩:=(hl.later ab).get hx;obtain⟨b2,off2,rfl,bG,⟨e0,e1,e2,e3⟩⟩:=(hm.later ab).get hx;have dp:=fun w=>Jvj x w;clear hd hx
   go_wp2_with fail
   go_quiet (fail)
   go_wp2_with fail
   go_roundw
   case rel=>exact⟨k+1,Ua,Up,Jb⟩
   case measure=>simp [intOf];omega
  ·obtain rfl:k=l.length:=Ua
   go_wp2_with fail
   go_ret;exact⟨rfl,Jb⟩
theorem Jvp (p:Pr) (a a2:PrA) (w:World) (hp:Kr w p a) (hp':Kr w p a2) :
  Calls Tryz.prog 11 #[prV p a,prV p a2] w fun r w'=>r = .returned (.bool true)/\Below w.heap.size w w':=by
 have h1:=fun W h=>Jd7 p.ins _ _ _ _ W (hp.ins.later h) (hp'.ins.later h);have h2:=fun W h=>Jd7 p.outs _ _ _ _ W (hp.outs.later h) (hp'.outs.later h);have h3:=fun W h=>Jd7 p.locals _ _ _ _ W (hp.locals.later h) (hp'.locals.later h);have hq:=hp.eqs;have tt:=hp'.eqs;have cG:=hq.len;have hl5:=tt.len;obtain⟨A1,c1,A2,c2,A3,c3,A4,c4⟩:=a;obtain⟨B1,k1,B2,k2,B3,k3,B4,k4⟩:=a2;unfold maxLen at cG hl5;unfold prV;dsimp only at *;obtain⟨fT,fU⟩:=cG;obtain⟨hl51,hl52⟩:=hl5;clear hp hp'
 go_enter Tryz.func11,Tryz.ntmps11
 go_wp2_with (first|(go_at_call_of 32 (Value.slice A1 p.ins.length c1);refine(h1 _ Jb).mono ?_;rintro r wa ⟨rfl,aA⟩;have aW:=Jg aA;have cN:=aA.size;(try simp at cN);have dG:w.heap.size<wa.heap.size:=Ua;have aX:w.heap.size+1<wa.heap.size:=Ua;clear h1)|(go_at_call_of 32 (Value.slice A2 p.outs.length c2);refine(h2 _ Jb).mono ?_;rintro r wb ⟨rfl,aH⟩;have el:=Jg aH;have dH:=aH.size;have cA:w.heap.size<wb.heap.size:=Ua;have ep:w.heap.size+1<wb.heap.size:=Ua;clear h2)|(go_at_call_of 32 (Value.slice A3 p.locals.length c3);refine(h3 _ Jb).mono ?_;rintro r wd ⟨rfl,ct⟩;have jK:=Jg ct;have ir:=ct.size;have ly:w.heap.size<wd.heap.size:=Ua;have oe:w.heap.size+1<wd.heap.size:=Ua;clear h3))
 refine Jo fun W0 ag=>?_;have ax:Below w.heap.size w W0:=Uo;have bD:w.heap.size<W0.heap.size:=Lk;have af:w.heap.size+1<W0.heap.size:=Lk;have x4:W0.cell? ⟨w.heap.size,4,none⟩=some (.slice A4 p.eqs.length c4):=Uc;have y4:W0.cell? ⟨w.heap.size+1,4,none⟩=some (.slice B4 p.eqs.length k4):=Uc;clear ag;replace hq:=hq.later ax;replace tt:=tt.later ax
 go_loopw [5] (fun i wr=>∃k:Nat,k<=p.eqs.length/\i = .int .i64 k/\Below W0.heap.size W0 wr) (fun i _=>p.eqs.length-(intOf i).toNat)
 case atStart=>exact⟨0,Nat.zero_le _,rfl,Below.refl _ _⟩
 case round=>
  obtain⟨k,hk,rfl,ab⟩:=hrel;have hc:=Jg ab;have bu:=ab.size;have fF:w.heap.size<wr.heap.size:=Ua;have fa:w.heap.size+1<wr.heap.size:=Ua;have hr3:w.heap.size<wr.heap.size+1:=Ua;have sj:w.heap.size+1<wr.heap.size+1:=Ua
  by_cases am:k<p.eqs.length
  ·obtain⟨q,hx,-,hd⟩:=Kl am;obtain⟨b,off,B1,n1,B2,n2,rfl,aH,⟨g0,g1,g2,g3,g4,g5,g6,g7,g8,g9,s1,s2⟩⟩:=(hq.later ab).get hx;obtain⟨bb,offb,E1,m1,E2,m2,rfl,hbbb,⟨j0,j1,j2,j3,j4,j5,j6,j7,j8,j9,u1,u2⟩⟩:=(tt.later ab).get hx;have gt:bb<wr.heap.size+1:=Ua;have hf:=fun W h1 h2=>Jf9 q.first q.first B1 n1 E1 m1 W h1 h2;have hg:=fun W h1 h2=>Jf9 q.e q.e B2 n2 E2 m2 W h1 h2;rw [Ex.same_refl] at hf hg;unfold exV at hf hg;clear hd hx
   go_wp2_with (first|(go_at_call_of 33 (Value.slice B1 q.first.sub.length n1);refine(hf _ (s1.later Jb) (u1.later Jb)).mono ?_;rintro r wa ⟨rfl,aA⟩;have aW:=Jg aA;have cN:=aA.size;(try simp at cN);have dG:w.heap.size<wa.heap.size:=Ua;have aX:w.heap.size+1<wa.heap.size:=Ua;have eJ:wr.heap.size<wa.heap.size:=Ua;have hya3:wr.heap.size+1<wa.heap.size:=Ua;clear hf)|(go_at_call_of 33 (Value.slice B2 q.e.sub.length n2);refine(hg _ (s2.later Jb) (u2.later Jb)).mono ?_;rintro r wb ⟨rfl,gz⟩))
   go_roundw
   case rel=>exact⟨k+1,Ua,Up,Jb⟩
   case measure=>simp [intOf];omega
  ·obtain rfl:k=p.eqs.length:=Ua
   go_wp2_with fail
   go_ret;exact⟨rfl,Jb⟩
theorem Jh6 (l:List Va) (A:Option Addr) (cap:Nat) (own:Bool) (w:World) (hl:Ju w l A cap) :
  Calls Tryz.prog 155 #[.slice A l.length cap,.bool own] w fun r w'=>r = .returned (.bool (l.all (Ke · own)))/\Below w.heap.size w w':=by
 have ai:=hl.len;unfold maxLen at ai;obtain⟨jD,jE⟩:=ai
 go_enter Tryz.func155,Tryz.ntmps155
 go_wp2_with fail
 go_loopw [5] (fun i wr=>∃k:Nat,k<=l.length/\i = .int .i64 k/\(l.drop k).all (Ke · own)=l.all (Ke · own)/\Below w.heap.size w wr) (fun i _=>l.length-(intOf i).toNat)
 case atStart=>exact⟨0,Nat.zero_le _,rfl,rfl,Jb⟩
 case round=>
  obtain⟨k,hk,rfl,aa,ab⟩:=hrel
  by_cases am:k<l.length
  ·obtain⟨x,hx,-,hd⟩:=Kl am;obtain⟨b,off,rfl,aH,⟨d0,d1,d2,d3⟩⟩:=(hl.later ab).get hx;rw [hd,List.all_cons] at aa;have eR:=fun W=>Xt x.name W;have eu:=fun W=>Xt x.cn W;clear hd hx
   cases hU:Ke x own
   ·rw [hU,Bool.false_and] at aa;have HR:=Lib.hid aa;clear aa;have kS:=Lib.hid hU;clear hU
    cases ac:Kz x.name <;> cases aq:Kz x.cn <;> cases own <;> rw [ac] at eR <;> rw [aq] at eu <;>
    ·go_wp2_with (first|(go_at_call_of 154 (Value.string x.name);refine(eR _).mono ?_;rintro r w1 ⟨rfl,jU⟩;have ak:=Jg jU;have af:=jU.size;(try simp at af))|(go_at_call_of 154 (Value.string x.cn);refine(eu _).mono ?_;rintro r w2 ⟨rfl,bG⟩))
     all_goals first
      | (exfalso;have hh:=kS.out;clear eR eu;simp_all [Ke];done)
      | (go_ret;exact⟨Jk HR.out,Jb⟩)
   ·rw [hU,Bool.true_and] at aa;have HR:=Lib.hid aa;clear aa;have kS:=Lib.hid hU;clear hU
    cases ac:Kz x.name <;> cases aq:Kz x.cn <;> cases own <;> rw [ac] at eR <;> rw [aq] at eu <;> first
     | (exfalso;have hh:=kS.out;clear eR eu;simp_all [Ke];done)
     | skip
    all_goals
     go_wp2_with (first|(go_at_call_of 154 (Value.string x.name);refine(eR _).mono ?_;rintro r w1 ⟨rfl,jU⟩;have ak:=Jg jU;have af:=jU.size;(try simp at af))|(go_at_call_of 154 (Value.string x.cn);refine(eu _).mono ?_;rintro r w2 ⟨rfl,bG⟩))
     all_goals first
      | (exfalso;have hh:=kS.out;clear eR eu;simp_all [Ke];done)
      | (
        go_roundw
        case rel=>exact⟨k+1,Ua,Up,HR.out,Jb⟩
        case measure=>simp [intOf];omega)
  ·obtain rfl:k=l.length:=Ua;exact Ucg
theorem Jo2 (p:Pr) (a:PrA) (w:World) (hp:Kr w p a) (aw:Q4 p) :
  Calls Tryz.prog 133 #[prV p a] w fun r w'=>r = .returned (.bool (Qw p))/\Below w.heap.size w w':=by
 have hn:=fun W=>Xt p.name W;have fC:=fun W h=>Jh6 p.ins _ _ false W (hp.ins.later h);have aI:=fun W h=>Jh6 p.outs _ _ false W (hp.outs.later h);have iM:=fun W h=>Jh6 p.locals _ _ true W (hp.locals.later h);have hv:Qw p=(Kz p.name && p.ins.all (Ke · false) && p.outs.all (Ke · false) && p.locals.all (Ke · true) && p.eqs.all eqB):=rfl;have kc:=Lib.hid aw.eqs;clear aw;have bT:=hp.eqs;have cG:=hp.eqs.len;obtain⟨A1,c1,A2,c2,A3,c3,A4,c4⟩:=a;unfold maxLen at cG;unfold prV;dsimp only at *;obtain⟨fT,fU⟩:=cG;clear hp;generalize Kz p.name=b0 at *;generalize (p.ins.all (Ke · false))=b1 at *;generalize (p.outs.all (Ke · false))=b2 at *;generalize (p.locals.all (Ke · true))=b3 at *
 cases b0
 ·simp only [Bool.false_and] at hv;have HV:=Lib.hid hv;clear hv
  go_enter Tryz.func133,Tryz.ntmps133
  go_wp2_with (first|(go_at_call_of 154 (Value.string p.name);refine(hn _).mono ?_;rintro r wa ⟨rfl,aA⟩;have aW:=Jg aA;have cN:=aA.size;(try simp at cN);have dG:w.heap.size<wa.heap.size:=Ua)|(go_at_call_of 155 (Value.slice A1 p.ins.length c1);refine(fC _ Jb).mono ?_;rintro r wb ⟨rfl,aH⟩;have el:=Jg aH;have dH:=aH.size;have cA:w.heap.size<wb.heap.size:=Ua)|(go_at_call_of 155 (Value.slice A2 p.outs.length c2);refine(aI _ Jb).mono ?_;rintro r wc ⟨rfl,bU⟩;have cB:=Jg bU;have iG:=bU.size;have kh:w.heap.size<wc.heap.size:=Ua)|(go_at_call_of 155 (Value.slice A3 p.locals.length c3);refine(iM _ Jb).mono ?_;rintro r wd ⟨rfl,ct⟩;have jK:=Jg ct;have ir:=ct.size;have ly:w.heap.size<wd.heap.size:=Ua))
  go_ret;exact⟨Jk HV.out.symm,Jb⟩
 cases b1
 ·exact Bg
 cases b2
 ·exact Bg
 cases b3
 ·exact Bg
 simp only [Bool.true_and] at hv;have HV:=Lib.hid hv;clear hv
 go_enter Tryz.func133,Tryz.ntmps133
 go_wp2_with (first|(go_at_call_of 154 (Value.string p.name);refine(hn _).mono ?_;rintro r wa ⟨rfl,aA⟩;have aW:=Jg aA;have cN:=aA.size;(try simp at cN);have dG:w.heap.size<wa.heap.size:=Ua)|(go_at_call_of 155 (Value.slice A1 p.ins.length c1);refine(fC _ Jb).mono ?_;rintro r wb ⟨rfl,aH⟩;have el:=Jg aH;have dH:=aH.size;have cA:w.heap.size<wb.heap.size:=Ua)|(go_at_call_of 155 (Value.slice A2 p.outs.length c2);refine(aI _ Jb).mono ?_;rintro r wc ⟨rfl,bU⟩;have cB:=Jg bU;have iG:=bU.size;have kh:w.heap.size<wc.heap.size:=Ua)|(go_at_call_of 155 (Value.slice A3 p.locals.length c3);refine(iM _ Jb).mono ?_;rintro r wd ⟨rfl,ct⟩;have jK:=Jg ct;have ir:=ct.size;have ly:w.heap.size<wd.heap.size:=Ua))
 refine Jo fun W0 ag=>?_;have ax:Below w.heap.size w W0:=Uo;have bD:w.heap.size<W0.heap.size:=Lk;have k4:W0.cell? ⟨w.heap.size,4,none⟩=some (.slice A4 p.eqs.length c4):=Uc;clear ag;replace bT:=bT.later ax;clear hn fC aI iM
 go_loopw [3] (fun i wr=>∃k:Nat,k<=p.eqs.length/\i = .int .i64 k/\(p.eqs.drop k).all eqB=Qw p/\Below W0.heap.size W0 wr) (fun i _=>p.eqs.length-(intOf i).toNat)
 case atStart=>exact⟨0,Nat.zero_le _,rfl,HV.out.symm,Below.refl _ _⟩
 case round=>
  obtain⟨k,hk,rfl,aa,ab⟩:=hrel;have hc:=Jg ab;have bu:=ab.size;have fF:w.heap.size<wr.heap.size:=Ua;have fa:w.heap.size<wr.heap.size+1:=Ua
  by_cases am:k<p.eqs.length
  ·obtain⟨q,hx,-,hd⟩:=Kl am;obtain⟨b,off,B1,n1,B2,n2,rfl,aH,⟨g0,g1,g2,g3,g4,g5,g6,g7,g8,g9,s1,s2⟩⟩:=(bT.later ab).get hx;rw [hd,List.all_cons,Juw] at aa;obtain⟨_,_,ln,jm⟩:=kc.out q (List.mem_of_getElem? hx);have aL:=fun W=>Xt q.name W;have bF:=fun W h=>Jf9 q.first Ex.zero B1 n1 none 0 W (s1.later h) (Jvg W);have cU:=fun W h=>Jl5 q.first B1 n1 W (s1.later h) ln;have lm:=fun W h=>Jdb q.e B2 n2 W (s2.later h) jm;unfold exV at bF cU lm;have ek:Jch q=if q.delay=1 then q.first.literal else if q.delay=0\/q.delay=2 then q.first.same Ex.zero else false:=rfl;clear hd hx ln jm;generalize q.first.literal=bl at *;generalize q.first.same Ex.zero=bs at *;generalize Kz q.name=bn at *;dsimp only [Ex.zero,Ex.kind,Ex.n,Ex.name,Ex.sub,List.length_nil] at bF
   by_cases js:q.delay=1
   ·rw [if_pos js] at ek;rw [ek] at aa;have td:(q.delay == 1)=true:=by rw [js];rfl
    have tlo:¬q.delay<0:=Ua;have thi:¬2<q.delay:=Ua;clear ek js;generalize q.e.right=er at *
    cases ht:(er != 0) <;> (have nQ:(er == 0)=!(er != 0):=by rw [bne,Bool.not_not]) <;> rw [nQ,ht] at aa <;> clear nQ <;> cases bn <;> cases bl <;> simp only [Bool.true_and,Bool.false_and,Bool.and_true,Bool.and_false,Bool.not_true,Bool.not_false] at aa <;>
    ·exact Be
   ·rw [if_neg js] at ek;have td:(q.delay == 1)=false:=by simpa using js
    by_cases tlo:q.delay<0
    ·exact T8
    by_cases thi:2<q.delay
    ·exact T8
    rw [if_pos Ua] at ek;rw [ek] at aa;clear ek js;generalize q.e.right=er at *
    cases ht:(er != 0) <;> (have nQ:(er == 0)=!(er != 0):=by rw [bne,Bool.not_not]) <;> rw [nQ,ht] at aa <;> clear nQ <;> cases bn <;> cases bs <;> simp only [Bool.true_and,Bool.false_and,Bool.and_true,Bool.and_false,Bool.not_true,Bool.not_false] at aa <;>
    ·exact Be
  ·obtain rfl:k=p.eqs.length:=Ua;exact Ucg
theorem Jyu (n:Int) (w:World) (h1 : -2147483648<=n) (h2:n<=2147483647):Calls Tryz.prog 159 #[.int .i64 n] w fun r w'=>r = .returned (.string (Ja6 n))/\Below w.heap.size w w':=by
 by_cases hlo:n<1
 ·exact Ubl
 by_cases hhi:17<=n
 ·exact Ubl
 have hn:n=1\/n=2\/n=3\/n=4\/n=5\/n=6\/n=7\/n=8\/n=9\/n=10\/n=11\/n=12\/n=13\/n=14\/n=15\/n=16:=Ua;clear hlo hhi h1 h2
 rcases hn with rfl|rfl|rfl|rfl|rfl|rfl|rfl|rfl|rfl|rfl|rfl|rfl|rfl|rfl|rfl|rfl
 all_goals
  go_enter Tryz.func159,Tryz.ntmps159
  go_wp2_with fail
  go_ret;exact⟨rfl,Jb⟩
theorem Zp {e x:Ex} (hf:e.formed=true) (hz:e.size<=100000) (hx:x∈e.sub):x.showB.size<=4000000/\x.partB.size<=4000000:=by
 have h1:=Ex.showB_size x (Ex.formed_sub hf hx);obtain⟨k,hk⟩:=List.mem_iff_getElem?.1 hx;have h2:=Ex.size_sub hk;have h3:=Jkk x.kind x.showB;unfold Ex.partB;exact Ua
theorem Jwr {e:Ex} (hs:e.showB.size<=100000000) {A:Option Addr} {cap:Nat} {w:World} (he:Jt w e A cap)
  (bY:∀W,Jt W e A cap->Calls Tryz.prog 136 #[exV e A cap] W fun r w'=>r = .returned (.string e.showB)/\Below W.heap.size W w') :
  Calls Tryz.prog 158 #[exV e A cap] w fun r w'=>r = .returned (.string e.partB)/\Below w.heap.size w w':=by
 have hl:=he.len;unfold maxLen at hl;have hv:e.partB=brk e.kind e.showB:=rfl;unfold brk at hv;have az:=fun W h=>bY W (he.later h);unfold exV at az ⊢
 by_cases hk:e.kind=1\/e.kind=2\/e.kind=3\/e.kind=8\/e.kind=9
 ·rw [if_pos hk] at hv;have HV:=Lib.hid hv;clear hv
  rcases hk with hk|hk|hk|hk|hk
  ·have k1:(e.kind == 1)=true:=Ud;exact Ubf
  ·have k1:(e.kind == 1)=false:=Ud;have k2:(e.kind == 2)=true:=Ud;exact Ubf
  ·have k1:(e.kind == 1)=false:=Ud;have k2:(e.kind == 2)=false:=Ud;have k3:(e.kind == 3)=true:=Ud;exact Ubf
  ·have k1:(e.kind == 1)=false:=Ud;have k2:(e.kind == 2)=false:=Ud;have k3:(e.kind == 3)=false:=Ud;have k8:(e.kind == 8)=true:=Ud;exact Ubf
  ·have k1:(e.kind == 1)=false:=Ud;have k2:(e.kind == 2)=false:=Ud;have k3:(e.kind == 3)=false:=Ud;have k8:(e.kind == 8)=false:=Ud;have k9:(e.kind == 9)=true:=Ud;exact Ubf
 ·rw [if_neg hk] at hv;have HV:=Lib.hid hv;clear hv;have k1:(e.kind == 1)=false:=Uj;have k2:(e.kind == 2)=false:=Uj;have k3:(e.kind == 3)=false:=Uj;have k8:(e.kind == 8)=false:=Uj;have k9:(e.kind == 9)=false:=Uj
  go_enter Tryz.func158,Tryz.ntmps158
  go_wp2_with (first|(go_at_call 136;refine(az _ Jb).mono ?_;rintro r w1 ⟨rfl,ac⟩;have ⟨ak,af⟩:=aft ac;(try simp at af)))
  exact Uef
def RT (e:Ex):Prop:=∀x∈e.sub,∀(B:Option Addr) (c:Nat) (W:World),Jt W x B c->(Calls Tryz.prog 136 #[exV x B c] W fun r w'=>r = .returned (.string x.showB)/\Below W.heap.size W w')/\
 (Calls Tryz.prog 158 #[exV x B c] W fun r w'=>r = .returned (.string x.partB)/\Below W.heap.size W w')
theorem Jy6 (e:Ex) (hf:e.formed=true) (eI:e.size<=100000) (ih:RT e) (A:Option Addr) (cap:Nat) (w:World) (he:Jt w e A cap) (hk:e.kind=1) :
  Calls Tryz.prog 136 #[exV e A cap] w fun r w'=>r = .returned (.string e.showB)/\Below w.heap.size w w':=by
 have hl:=he.len;unfold maxLen at hl;obtain⟨bI,aD⟩:=hl;have bg:Jl e.kind e.n e.name e.sub.length=true:=U5;unfold Jl Jw at bg;rw [hk] at bg;simp at bg;have q1:(e.kind == 1)=true:=Ud;have wN:=fun W=>Jn0 e.n W Ua Ua;have hv:e.showB=Zn e.n:=by rw [Ex.showB_eq,hk];simp [Ye]
 clear hf ih hk bg;unfold exV;have HV:=Lib.hid hv;clear hv
 go_enter Tryz.func136,Tryz.ntmps136
 go_wp2_with (first|(go_at_call 157;refine(wN _).mono ?_;rintro r w1 ⟨rfl,ac⟩;have ⟨ak,af⟩:=aft ac;(try simp at af)))
 go_ret;exact⟨Kk HV.out.symm,Jb⟩
theorem Jy3 (e:Ex) (hf:e.formed=true) (eI:e.size<=100000) (ih:RT e) (A:Option Addr) (cap:Nat) (w:World) (he:Jt w e A cap) (hk:e.kind=2) :
  Calls Tryz.prog 136 #[exV e A cap] w fun r w'=>r = .returned (.string e.showB)/\Below w.heap.size w w':=by
 have hl:=he.len;unfold maxLen at hl;obtain⟨bI,aD⟩:=hl;have bg:Jl e.kind e.n e.name e.sub.length=true:=U5;unfold Jl Jw at bg;rw [hk] at bg;simp at bg;have q1:(e.kind == 1)=false:=Ud;have q2:(e.kind == 2)=true:=Ud;have hn:e.n=0\/e.n=1:=Ua
 rcases hn with hn|hn
 ·have hv:e.showB=⟨#[102,97,108,115,101]⟩:=by rw [Ex.showB_eq,hk];simp [Ye,hn]
  have s1:(e.n == 1)=false:=D7;exact Ubr
 ·have hv:e.showB=⟨#[116,114,117,101]⟩:=by rw [Ex.showB_eq,hk];simp [Ye,hn]
  have s1:(e.n == 1)=true:=D7;exact Ubr
theorem Jy5 (e:Ex) (hf:e.formed=true) (eI:e.size<=100000) (ih:RT e) (A:Option Addr) (cap:Nat) (w:World) (he:Jt w e A cap) (hk:e.kind=3) :
  Calls Tryz.prog 136 #[exV e A cap] w fun r w'=>r = .returned (.string e.showB)/\Below w.heap.size w w':=by
 have hl:=he.len;unfold maxLen at hl;obtain⟨bI,aD⟩:=hl;have bg:Jl e.kind e.n e.name e.sub.length=true:=U5;unfold Jl Jw at bg;rw [hk] at bg;simp at bg;have q1:(e.kind == 1)=false:=Ud;have q2:(e.kind == 2)=false:=Ud;have q3:(e.kind == 3)=true:=Ud;have hv:e.showB=e.name:=by rw [Ex.showB_eq,hk];simp [Ye]
 clear hf ih hk bg;unfold exV;have HV:=Lib.hid hv;clear hv
 go_enter Tryz.func136,Tryz.ntmps136
 go_wp2_with fail
 go_ret;exact⟨Kk HV.out.symm,Jb⟩
theorem Jxe (e:Ex) (hf:e.formed=true) (eI:e.size<=100000) (ih:RT e) (A:Option Addr) (cap:Nat) (w:World) (he:Jt w e A cap) (hk:e.kind=4) (hn:e.n=1) :
  Calls Tryz.prog 136 #[exV e A cap] w fun r w'=>r = .returned (.string e.showB)/\Below w.heap.size w w':=by
 have hl:=he.len;unfold maxLen at hl;obtain⟨bI,aD⟩:=hl;have bg:Jl e.kind e.n e.name e.sub.length=true:=U5;unfold Jl Jw at bg;rw [hk] at bg;simp at bg;have q1:(e.kind == 1)=false:=Ud;have q2:(e.kind == 2)=false:=Ud;have q3:(e.kind == 3)=false:=Ud;have q4:(e.kind == 4)=true:=Ud;have s1:(e.n == 1)=true:=D7;have ai:e.sub.length=1:=Ua;obtain⟨x,aT⟩:=Jcd ai;have hx:e.sub[0]?=some x:=Ff;have mx:=List.mem_of_getElem? hx;obtain⟨sx1,sx2⟩:=Zp hf eI mx;obtain⟨b,off,X,cx,rfl,c0,c1,c2,c3,dT⟩:=he.get hx;simp only [Nat.zero_mul,Nat.one_mul,Nat.add_zero] at c0 c1 c2 c3;have gt:b<w.heap.size:=block_lt_of_cell c0;have kH:b<w.heap.size+1:=Ua;have l0:0<e.sub.length:=Ua;have px:=fun W h=>(ih x mx X cx W (dT.later h)).2;have hv:e.showB=⟨#[45]⟩ ++ x.partB:=Gz;clear hf ih hk aT ai bg hn hx mx;unfold exV at *;generalize x.partB=t0 at *;have z0:¬9223372036854775807<1+t0.size:=Ua;have HV:=Lib.hid hv;clear hv
 go_enter Tryz.func136,Tryz.ntmps136
 go_wp2_with (first|(go_at_call 158;refine(px _ Jb).mono ?_;rintro r w1 ⟨rfl,ac⟩;have ⟨ak,af⟩:=aft ac;(try simp at af)))
 go_ret;exact⟨Kk HV.out.symm,Jb⟩
theorem Jxa (e:Ex) (hf:e.formed=true) (eI:e.size<=100000) (ih:RT e) (A:Option Addr) (cap:Nat) (w:World) (he:Jt w e A cap) (hk:e.kind=4) (hn:e.n=2) :
  Calls Tryz.prog 136 #[exV e A cap] w fun r w'=>r = .returned (.string e.showB)/\Below w.heap.size w w':=by
 have hl:=he.len;unfold maxLen at hl;obtain⟨bI,aD⟩:=hl;have bg:Jl e.kind e.n e.name e.sub.length=true:=U5;unfold Jl Jw at bg;rw [hk] at bg;simp at bg;have q1:(e.kind == 1)=false:=Ud;have q2:(e.kind == 2)=false:=Ud;have q3:(e.kind == 3)=false:=Ud;have q4:(e.kind == 4)=true:=Ud;have s1:(e.n == 1)=false:=D7;have ai:e.sub.length=1:=Ua;obtain⟨x,aT⟩:=Jcd ai;have hx:e.sub[0]?=some x:=Ff;have mx:=List.mem_of_getElem? hx;obtain⟨sx1,sx2⟩:=Zp hf eI mx;obtain⟨b,off,X,cx,rfl,c0,c1,c2,c3,dT⟩:=he.get hx;simp only [Nat.zero_mul,Nat.one_mul,Nat.add_zero] at c0 c1 c2 c3;have gt:b<w.heap.size:=block_lt_of_cell c0;have kH:b<w.heap.size+1:=Ua;have l0:0<e.sub.length:=Ua;have px:=fun W h=>(ih x mx X cx W (dT.later h)).2;have hv:e.showB=⟨#[110,111,116,32]⟩ ++ x.partB:=Gz;clear hf ih hk aT ai bg hn hx mx;unfold exV at *;generalize x.partB=t0 at *;have z0:¬9223372036854775807<4+t0.size:=Ua;have HV:=Lib.hid hv;clear hv
 go_enter Tryz.func136,Tryz.ntmps136
 go_wp2_with (first|(go_at_call 158;refine(px _ Jb).mono ?_;rintro r w1 ⟨rfl,ac⟩;have ⟨ak,af⟩:=aft ac;(try simp at af)))
 go_ret;exact⟨Kk HV.out.symm,Jb⟩
end Go.Proofs.YtknfcamdfdfoeaaGreatDoor
