/- Lemmas. -/
import Derived.Test.YtknfcamdfdfoeaaGreatDoorMac
import Derived.Test.YtknfcamdfdfoeaaGreatDoorZ30
import Derived.Test.YtknfcamdfdfoeaaGreatDoorZ09
import Derived.Test.YtknfcamdfdfoeaaGreatDoorZ16
import Derived.Test.YtknfcamdfdfoeaaGreatDoorZ03
import Derived.Test.YtknfcamdfdfoeaaGreatDoorZ23
set_option linter.unusedVariables false
set_option linter.unusedSimpArgs false
set_option maxRecDepth 100000
set_option maxHeartbeats 64000000
namespace Go.Proofs.YtknfcamdfdfoeaaGreatDoor
open Go.RowKit Go.Sort
theorem Jjz {l:List Va} : ∀ {r:List Va} {k j:Nat} {e:Int},Yy l k r=some (j,e)->e≠0
 | [],k,j,e,h=>by simp [Yy] at h
 | v :: r,k,j,e,h=>by
  rw [Yy] at h
  by_cases hc:Yc l v≠0
  ·exact Uc2
  ·rw [if_neg hc] at h;exact Jjz h
theorem Jjo {l:List Va} : ∀ {r:List Qe} {k j:Nat} {e:Int},Y7 l k r=some (j,e)->e≠0
 | [],k,j,e,h=>by simp [Y7] at h
 | q :: r,k,j,e,h=>by
  rw [Y7] at h
  by_cases hc:q.e.clk l (Jcy l q.name)≠0
  ·exact Uc2
  ·rw [if_neg hc] at h;exact Jjo h
theorem Jxh {p:Pr} (h:Qg p≠(0,0,0)):(Qg p).2.2≠0:=by
 unfold Qg at h ⊢
 by_cases hc:J7 p≠(0,0,0)
 ·rw [if_pos hc];exact Jrg hc
 rw [if_neg hc] at h ⊢;unfold Jgx at h ⊢
 cases hv:Yy (Je p) 0 (Je p) with
 | some k=>exact Jjz (e:=k.2) (j:=k.1) hv
 | none=>
 rw [hv] at h;simp only at h ⊢;unfold Ji8 at h ⊢
 cases hq:Y7 (Je p) 0 p.eqs with
 | some k=>exact Jjo (e:=k.2) (j:=k.1) hq
 | none=>rw [hq] at h;simp at h
theorem Jqb (p:Pr) (a:PrA) (w:World) (hp:Kr w p a) (aw:Q4 p) (n1:p.ins.length<=1000000) (n2:p.outs.length<=1000000) (n3:p.locals.length<=1000000) (n4:p.eqs.length<=1000000) (aN:Qg p≠(0,0,0)) :
  Calls Tryz.prog 29 #[prV p a] w fun r w'=>r = .returned (.tuple #[.slice none 0 0,fV (Qg p)])/\Below w.heap.size w w':=by
 have aV:=fun W h=>Jhn p a W (hp.later h) aw n1 n2 n3 n4;have he:((Qg p).2.2 != 0)=true:=by simpa using Jxh aN
 clear aN aw;obtain⟨A1,c1,A2,c2,A3,c3,A4,c4⟩:=a;unfold prV fV at *;dsimp only at *;generalize Qg p=f at *;obtain⟨f0,f1,f2⟩:=f;dsimp only at *
 go_enter Tryz.func29,Tryz.ntmps29
 go_wp2_with (first|(go_at_call 53;refine(aV _ Jb).mono ?_;rintro r wa ⟨rfl,aA⟩;have aW:=Jg aA;have bS:=Jf aA;have cN:w.heap.size+2<=wa.heap.size:=Ut;have dG:w.heap.size<wa.heap.size:=Ua;have aX:w.heap.size+1<wa.heap.size:=Ua))
 go_region
 all_goals
  go_wp2_with fail
  refine bodyPost_ret (v:= .tuple #[.slice none 0 0,.agg #[.int .i64 f0,.int .i64 f1,.int .i64 f2]]) Gs rfl ⟨rfl,?_⟩
  (repeat refine Jh ?_)
  exact Km
theorem Jqt (p:Pr) (a:PrA) (w:World) (hg:Ql w) (hp:Kr w p a) (n1:p.ins.length<=1000000) (n2:p.outs.length<=1000000) (n3:p.locals.length<=1000000) (n4:p.eqs.length<=1000000) (aN:Qg p≠(0,0,0)) :
  Calls Tryz.prog 24 #[prV p a] w fun r w'=>r = .returned (.tuple #[.slice none 0 0,fV (Qg p)])/\Below w.heap.size w w':=by
 have aV:=fun W h=>Jhx p a W (hg.later h) (hp.later h) n1 n2 n3 n4
 have aS:((Qg p).1 == 0 && (Qg p).2.1 == 0 && (Qg p).2.2 == 0)=false:=by
  exact Ub8
 have dp:∀w,(Op.equalIn 10000 34 (.agg #[.int .i64 (Qg p).1,.int .i64 (Qg p).2.1,.int .i64 (Qg p).2.2]) (.agg #[.int .i64 0,.int .i64 0,.int .i64 0])).run Tryz.prog w = .ok false w:=fun w=>by rw [Zr,aS]
 have fM:Tryz.prog.eqGuardType Tryz.prog.depth 34=false:=Ug;clear aN aS;obtain⟨A1,c1,A2,c2,A3,c3,A4,c4⟩:=a;unfold prV fV at *;dsimp only at *;generalize (Qg p).1=k1 at *;generalize (Qg p).2.1=k2 at *;generalize (Qg p).2.2=k3 at *
 go_enter Tryz.func24,Tryz.ntmps24
 go_wp2_with (first|(go_at_call 45;refine(aV _ Jb).mono ?_;rintro r wa ⟨rfl,aA⟩;have aW:=Jg aA;have bS:=Jf aA;have cN:w.heap.size+2<=wa.heap.size:=Ut;have dG:w.heap.size<wa.heap.size:=Ua;have aX:w.heap.size+1<wa.heap.size:=Ua))
 go_region
 all_goals
  go_wp2_with fail
  refine bodyPost_ret (v:= .tuple #[.slice none 0 0,.agg #[.int .i64 k1,.int .i64 k2,.int .i64 k3]]) Gq rfl ⟨rfl,?_⟩
  (repeat refine Jh ?_)
  exact Km
def Jfh (v:Value):Nat:=match v with | .slice _ n _=>n|_=>0
theorem Jzn {v u:Value} (h:∀b,v.ownBlock=some b->u.ownBlock≠some b):v.ownBlock=none\/v.ownBlock≠u.ownBlock:=by
 cases hv:v.ownBlock with
 | none=>exact .inl rfl
 | some b=>exact .inr fun e=>h b hv e.symm
theorem Jyl {v u:Value} (h:∀b,v.ownBlock=some b->u.ownBlock≠some b):u.ownBlock=none\/u.ownBlock≠v.ownBlock:=by
 cases hu:u.ownBlock with
 | none=>exact .inl rfl
 | some b=>exact .inr fun e=>h b e.symm hu
theorem Jwy {v u u2:Value} {B s s2:Nat} (h:∀b,v.ownBlock=some b->u.ownBlock≠some b) (am:∀k,v.ownBlock=some k->B<=k/\k<s) (nk:u2.ownBlock=u.ownBlock\/∀k,u2.ownBlock=some k->s2<=k) (hs:s<=s2):∀b,v.ownBlock=some b->u2.ownBlock≠some b:=by
 intro b hb e
 rcases nk with h1|h1
 ·exact h b hb (h1 ▸ e)
 ·have:=h1 b e;have:=(am b hb).2;exact Ua
theorem Ju3 {v v2 u:Value} {B s s2:Nat} (h:∀b,v.ownBlock=some b->u.ownBlock≠some b) (am:∀k,u.ownBlock=some k->B<=k/\k<s) (nk:v2.ownBlock=v.ownBlock\/∀k,v2.ownBlock=some k->s2<=k) (hs:s<=s2):∀b,v2.ownBlock=some b->u.ownBlock≠some b:=by
 intro b hb e
 rcases nk with h1|h1
 ·exact h b (h1 ▸ hb) e
 ·have:=h1 b hb;have:=(am b e).2;exact Ua
theorem Jou (p:Pr) (a:PrA) (w:World) (hp:Kr w p a) (aw:Q4 p) (n1:p.ins.length<=1000000) (n2:p.outs.length<=1000000) (n3:p.locals.length<=1000000) (n4:p.eqs.length<=1000000) (aN:Qg p=(0,0,0)) :
  Calls Tryz.prog 29 #[prV p a] w fun r w'=>(∃v,r = .returned (.tuple #[v,fV (Jbo p).2])/\w'.ownsRow w.heap.size 3 1 v (Jbo p).1.length ((Jbo p).1.map (.int .i64)))/\Below w.heap.size w w':=by
 have hO:Jbo p=Jfk (ofR (Je p)) p.eqs (Yn p.eqs) (Yn p.eqs) (p.ins.map (·.name) ++ Jbq p.eqs) []:=rfl;generalize Jbo p=O at *;have HO:=Lib.hid hO;clear hO;have aV:=fun W h=>Jhn p a W (hp.later h) aw n1 n2 n3 n4
 have ju:∀q∈p.eqs,q.e.size<=1000000:=fun q hq=>by
  have:=(Jaq ((X4 (Xp (Xk aN).1).1).2.2.2.2 q hq)).2.2.1;exact Ua
 have tl:=fun(k:Nat) (q:Qe) (hq:p.eqs[k]?=some q) W (h:Below w.heap.size w W)=>Jo0 p a k q W (hp.later h) hq (ju q (List.mem_of_getElem? hq)) n1 n2 n3 n4;rw [aN] at aV;clear aN ju;have ii:=hp.ins;have bI:=hp.ins.len;have bT:=hp.eqs;have cG:=hp.eqs.len;obtain⟨A1,c1,A2,c2,A3,c3,A4,c4⟩:=a;unfold maxLen at bI cG;unfold prV fV at *;dsimp only at *;obtain⟨tO,tP⟩:=bI;obtain⟨fT,fU⟩:=cG
 go_enter Tryz.func29,Tryz.ntmps29
 go_wp2_with (first|(go_at_call 53;refine(aV _ Jb).mono ?_;rintro r wa ⟨rfl,aA⟩;have aW:=Jg aA;have bS:=Jf aA;have cN:w.heap.size+2<=wa.heap.size:=Ut;have dG:w.heap.size<wa.heap.size:=Ua;have aX:w.heap.size+1<wa.heap.size:=Ua))
 refine Jo fun W0 ag=>?_;have ax:Below w.heap.size w W0:=Vl;have bD:w.heap.size+1<W0.heap.size:=Su;have rx:w.heap.size<W0.heap.size:=Ua;have x0:W0.cell? ⟨w.heap.size,0,none⟩=some (.string p.name):=Uc;have x1:W0.cell? ⟨w.heap.size,1,none⟩=some (.slice A1 p.ins.length c1):=Uc;have x2:W0.cell? ⟨w.heap.size,2,none⟩=some (.slice A2 p.outs.length c2):=Uc;have x3:W0.cell? ⟨w.heap.size,3,none⟩=some (.slice A3 p.locals.length c3):=Uc;have x4:W0.cell? ⟨w.heap.size,4,none⟩=some (.slice A4 p.eqs.length c4):=Uc;have f0:W0.cell? ⟨w.heap.size+1,0,none⟩=some (.int .i64 0):=Uc;have f1:W0.cell? ⟨w.heap.size+1,1,none⟩=some (.int .i64 0):=Uc;have f2:W0.cell? ⟨w.heap.size+1,2,none⟩=some (.int .i64 0):=Uc;have z0:W0.frozen? ⟨w.heap.size+1,0,none⟩=false:=Uc;have z1:W0.frozen? ⟨w.heap.size+1,1,none⟩=false:=Uc;have z2:W0.frozen? ⟨w.heap.size+1,2,none⟩=false:=Uc;clear ag aW bS aA cN dG aX aV
 go_loopw [5,6] (fun r i wr=>∃(k:Nat) (A:Option Addr) (cap:Nat),k<=p.ins.length/\i = .int .i64 k/\r = .slice A k cap/\Hid (wr.ownsRow W0.heap.size 9 1 (.slice A k cap) k ((p.ins.take k).map (fun v=>Value.string v.name)))/\Below W0.heap.size W0 wr) (fun r i _=>p.ins.length-(intOf i).toNat)
 case atStart=>exact⟨0,none,0,Nat.zero_le _,rfl,rfl,Lib.hid (World.ownsRow_nil _ _ _ _),Below.refl _ _⟩
 case round=>
  obtain⟨k,A,cap,hk,rfl,rfl,ae,ab⟩:=hrel;have aC:Below w.heap.size w wr:=Jn ax ab Ua;have hc:=Jg ab;have bu:=ab.size
  by_cases am:k<p.ins.length
  ·obtain⟨x,hx,-,hd⟩:=Kl am;obtain⟨b,off,rfl,aH,⟨d0,d1,d2,d3⟩⟩:=(ii.later aC).get hx;have aP:p.ins.take (k+1)=p.ins.take k ++ [x]:=Gy;clear hd;have eZ:=Lib.hid aP;clear aP hx;have ba:=ae.out
   go_wp2_with (first|(at_builtin;go_loud (refine K2 rfl (.tmp 29) (.tmp 36) 121 rfl W0.heap.size 9 _ 1 16 Tryz.underlying121 Zq rfl Ua (.slice A k cap) k ((p.ins.take k).map (fun v=>Value.string v.name)) _ 1 [.string x.name] rfl (Js ba) rfl rfl (fun j u hj=>U9) Uv Ua Ua Uj ?_;intro v2 w2 ao aq;have br:=aq.size;(try simp at br);obtain⟨A2',cv2,rfl,it,iu⟩:=Jv ao)))
   go_roundw
   case rel=>exact⟨k+1,_,_,Ua,Up,rfl,Lib.hid (by rw [eZ.out,List.map_append];exact ao),Jb⟩
   case measure=>simp [intOf];try omega
  ·obtain rfl:k=p.ins.length:=Ua;rw [List.take_length] at ae
   have eo:wr.ownsRow W0.heap.size 9 1 (.slice A p.ins.length cap) (p.ins.map (·.name)).length ((p.ins.map (·.name)).map .string):=by
    have:=ae.out;rw [List.map_map,List.length_map];exact this
   have HO0:=Lib.hid eo;clear eo ae;obtain⟨R0,hR0⟩:∃R0,R0=p.ins.map (·.name):=⟨_,rfl⟩;have hR0l:R0.length=p.ins.length:=by rw [hR0,List.length_map]
   rw [<-hR0] at HO0;have vi:=Lib.hid hR0;clear hR0
   go_wp2_with fail
   clear aC hc bu
   go_loopw [5,7,8] (fun r c i wr=>∃(k n:Nat) (A:Option Addr) (cap:Nat) (R:List ByteArray),k<=p.eqs.length/\i = .int .i64 k/\c = .int .i64 n/\n<=k/\Hid (n=Yn (p.eqs.take k))/\R.length<=1000000+k/\Hid (R=R0 ++ Jbq (p.eqs.take k))/\r = .slice A R.length cap/\Hid (wr.ownsRow W0.heap.size 9 1 (.slice A R.length cap) R.length (R.map .string))/\Below W0.heap.size W0 wr) (fun r c i _=>p.eqs.length-(intOf i).toNat)
   case atStart=>exact⟨0,0,A,cap,R0,Nat.zero_le _,rfl,rfl,Nat.le_refl _,Lib.hid rfl,Ua,Lib.hid (by simp [Jbq]),by rw [hR0l],Lib.hid (by have:=HO0.out;rw [hR0l] at this ⊢;exact this),ab⟩
   case round=>
    clear HO0 ab;obtain⟨k,n,A,cap,R,hk,rfl,rfl,hn,jV,hRl,hR,rfl,ae,ab⟩:=hrel;have aC:Below w.heap.size w wr:=Jn ax ab Ua;have hc:=Jg ab;have bu:=ab.size
    by_cases am:k<p.eqs.length
    ·obtain⟨q,hx,-,hd⟩:=Kl am;obtain⟨b,off,B1,n1,B2,n2,rfl,aH,⟨g0,g1,g2,g3,g4,g5,g6,g7,g8,g9,s1,s2⟩⟩:=(bT.later aC).get hx;have aP:p.eqs.take (k+1)=p.eqs.take k ++ [q]:=Gy;have h1:=Jpy (p.eqs.take k) q;have h2:=Js8 (p.eqs.take k) q;rw [<-aP] at h1 h2;rw [<-jV.out] at h2;clear hd hx aP g2 g3 g4 g5 g6 g7 g8 g9 s1 s2;have ba:=ae.out
     cases ek:(q.delay != 0)
     ·rw [ek,if_neg Ul] at h1 h2;have H1:=Lib.hid h1;clear h1;have H2:=Lib.hid h2;clear h2
      go_wp2_with fail
      go_roundw
      case rel=>exact⟨k+1,n+1,A,cap,R,Ua,Up,Up,Ua,Lib.hid H2.out.symm,Ua,Lib.hid (by rw [H1.out];exact hR.out),rfl,ae,ab⟩
      case measure=>simp [intOf];try omega
     ·rw [ek,if_pos rfl] at h1 h2;have H1:=Lib.hid h1;clear h1;have H2:=Lib.hid h2;clear h2
      go_wp2_with (first|(at_builtin;go_loud (refine K2 rfl (.tmp 52) (.tmp 59) 121 rfl W0.heap.size 9 _ 1 16 Tryz.underlying121 Zq rfl Ua (.slice A R.length cap) R.length (R.map .string) _ 1 [.string q.name] rfl (Js ba) rfl rfl (fun j u hj=>U9) Uv Ua Ua Uj ?_;intro v2 w2 ao aq;have br:=aq.size;(try simp at br);obtain⟨A2',cv2,rfl,it,iu⟩:=Jv ao)))
      go_roundw
      case rel=>exact⟨k+1,n,A2',cv2,R ++ [q.name],Ua,Up,Up,Ua,Lib.hid H2.out.symm,Uj,Lib.hid (by rw [H1.out,hR.out,List.append_assoc]),Ul,Lib.hid (by rw [List.map_append,List.length_append];exact ao),Jb⟩
      case measure=>simp [intOf];try omega
    ·obtain rfl:k=p.eqs.length:=Ua;rw [List.take_length] at jV hR;have hRO:Jfk (ofR (Je p)) p.eqs n n R []=O:=by rw [HO.out,<-vi.out,<-hR.out,<-jV.out]
     have wV:=Lib.hid hRO;clear hRO;have hRl2:R.length<=2000000:=Ua
     go_wp2_with fail
     obtain⟨nd,nq⟩:∃nd,nd=ofR (Je p):=⟨_,rfl⟩;rw [<-nq] at wV tl;have HND:=Lib.hid nq;clear nq hc bu aC jV hR
     go_loopw [5,9] (fun r o wr=>∃(t:Nat) (A:Option Addr) (cap:Nat) (B:Option Addr) (bc:Nat) (R:List ByteArray) (out:List Int),out.length+t=n/\r = .slice A R.length cap/\o = .slice B out.length bc/\R.length<=2000000+out.length/\Hid (Jfk nd p.eqs n t R out=O)/\Hid (wr.ownsRow W0.heap.size 9 1 (.slice A R.length cap) R.length (R.map .string))/\Hid (wr.ownsRow W0.heap.size 3 1 (.slice B out.length bc) out.length (out.map (.int .i64)))/\Hid (∀b,(Value.slice A R.length cap).ownBlock=some b->(Value.slice B out.length bc).ownBlock≠some b)/\Below W0.heap.size W0 wr) (fun r o _=>n-Jfh o)
     case atStart=>exact⟨n,A,cap,none,0,R,[],Ul,rfl,rfl,Ua,wV,ae,Lib.hid (World.ownsRow_nil _ _ _ _),Lib.hid (fun b _ h=>by simp [Value.ownBlock] at h),ab⟩
     case round=>
      clear wV ae ab;obtain⟨t,A,cap,B,bc,R,out,ht,rfl,rfl,hRl3,aa,ae,iX,ra,ab⟩:=hrel;have aC:Below w.heap.size w wr:=Jn ax ab Ua;have hc:=Jg ab;have eh:=Jf ab;have bu:=ab.size;have wD:w.heap.size+1<wr.heap.size:=Ua
      cases t with
      | zero=>
       have hv:O=(out,(0,0,0)):=by rw [<-aa.out];rfl
       have bg:out.length=n:=Ua;have ql:=iX.out;have HV:=Lib.hid hv;clear hv aa
       go_wp2_with fail
       refine bodyPost_ret (v:= .tuple #[.slice B out.length bc,.agg #[.int .i64 0,.int .i64 0,.int .i64 0]]) Gs rfl ⟨⟨.slice B out.length bc,Vp,?_⟩,?_⟩
       ·rw [HV.out];dsimp only;exact Ubw
       ·(repeat refine Jh ?_)
        exact Km
      | succ t=>
       have am:out.length<n:=Ua;have dO:(out.length:Int)<(n:Int):=Ua;have gm:=aa.out;rw [Jfk,if_pos am] at gm;have wY:=Lib.hid gm;clear gm aa;obtain⟨W3,rfl⟩:∃W3,W3=wr:=⟨wr,rfl⟩;have hw3:w.heap.size<W3.heap.size:=Ua;have lf:=Qf.of_own ae.out
       go_wp2_with fail
       go_loopw [10,11,12] (fun l x i wr=>∃(k:Nat) (l0 n0:Int),k<=p.eqs.length/\i = .int .i64 ((k:Int)-1)/\l = .int .i64 l0/\x = .int .i64 n0/\Hid (Yd R nd k (p.eqs.drop k)=(l0,n0))/\Below W3.heap.size W3 wr) (fun _ _ i _=>(intOf i+1).toNat)
       case atStart=>exact⟨p.eqs.length,-1,-1,Nat.le_refl _,Up,rfl,rfl,Lib.hid (by rw [List.drop_length];rfl),Below.refl _ _⟩
       case round=>
        obtain⟨k,l0,n0,hk,rfl,rfl,rfl,pZ,dB⟩:=hrel;have rR:Below w.heap.size w wr:=Jn aC dB Ua;have ky:=Jg dB;have lc:=Jf dB;have rP:=dB.size;have hwv:w.heap.size<wr.heap.size:=Ua;have hwv1:w.heap.size+1<wr.heap.size:=Ua
        rcases Nat.eq_zero_or_pos k with iP|iP
        ·subst iP;have nW:=pZ.out;rw [List.drop_zero] at nW;have gm:=wY.out;rw [nW] at gm;dsimp only at gm;clear pZ wY
         by_cases bg:n0<0
         ·rw [if_pos bg] at gm;have HV:=Lib.hid gm;clear gm nW
          go_wp2_with fail
          refine bodyPost_ret (v:= .tuple #[.slice none 0 0,.agg #[.int .i64 3,.int .i64 l0,.int .i64 22]]) Gs rfl ⟨⟨.slice none 0 0,by rw [<-HV.out],?_⟩,?_⟩
          ·rw [<-HV.out];exact World.ownsRow_nil _ _ _ _
          ·(repeat refine Jh ?_)
           exact Km
         ·rw [if_neg bg] at gm;obtain⟨k,q,dN,hx,_,_⟩:=Jfx p.eqs 0 (by rw [nW];exact bg);rw [nW,Nat.zero_add] at dN;dsimp only at dN;subst dN;have jp:k<p.eqs.length:=(List.getElem?_eq_some_iff.1 hx).1;rw [Jms (q:=q) (by rw [Int.toNat_natCast];exact hx)] at gm;have HV:=Lib.hid gm;have HX:=Lib.hid hx;have eR:¬((k:Int)<0):=Ua;clear gm nW hx bg
          go_wp2_with (first|(at_builtin;go_loud (refine Z2 rfl (.tmp 108) (.tmp 110) 77 rfl W0.heap.size 3 _ 1 8 Tryz.underlying77 Zd rfl Ua (.slice B out.length bc) out.length (out.map (.int .i64)) _ 1 1 [.int .i64 (k:Int)] rfl (Js (Jy iX.out dB)) rfl rfl (fun j u hj=>U9) Uv Ua Ua Uj ?_;intro v2 w2 ao aG hor2;have mA:=Jzn ra.out;have hrd2:=(Js (Jy ae.out dB)).kept aG mA;have hap2:=Jwy ra.out ae.out.lt hor2 Uj;have aq:Below W0.heap.size W0 w2:=J2 (Jc (ab.trans (dB.mono Ua)) _) aG (fun b hb=>(iX.out.lt b hb).1) Uj;have br:wr.heap.size+1<=w2.heap.size:=D0;have dm:=Jg aq;have gq:w.heap.size<w2.heap.size:=Ua;have iY:Below w.heap.size w w2:=Jn ax aq Ua;obtain⟨b,off,B1,n1,B2,n2,rfl,aH,⟨g0,g1,g2,g3,g4,g5,g6,g7,g8,g9,s1,s2⟩⟩:=(bT.later iY).get HX.out;clear g1 g2 g3 g4 g5 g6 g7 g8 g9 s1 s2;obtain⟨A2',cv2,rfl,it,iu⟩:=Jv ao))|(at_builtin;go_loud (refine Z2 rfl (.tmp 112) (.tmp 119) 121 rfl W0.heap.size 9 _ 1 16 Tryz.underlying121 Zq rfl Ua (.slice A R.length cap) R.length (R.map .string) _ 1 1 [.string q.name] rfl (Js hrd2) rfl rfl (fun j u hj=>U9) Uv Ua Ua Uj ?_;intro v3 w3 aE bJ hor3;have hout3:=(Js ao).kept bJ (Jyl hap2);have hap3:=Ju3 hap2 ao.lt hor3 Ul;have aM:Below W0.heap.size W0 w3:=J2 (Jc aq _) bJ (fun b hb=>(ae.out.lt b hb).1) Uj;obtain⟨A3',cv3,rfl,hcd1,hcd2⟩:=Jv aE)))
          go_roundw
          case rel=>exact⟨t,A3',cv3,A2',cv2,R ++ [q.name],out ++ [(k:Int)],Uj,Ul,Ul,Uj,HV,Lib.hid (by rw [List.map_append,List.length_append];exact aE),Lib.hid (by rw [List.map_append,List.length_append];exact hout3),Lib.hid (by rw [List.length_append,List.length_append];exact hap3),aM⟩
          case measure=>simp [Jfh];omega
        ·obtain⟨k,rfl⟩:∃m,k=m+1:=⟨k-1,Ua⟩;have am:k<p.eqs.length:=Ua;obtain⟨q,hx,-,hd⟩:=Kl am;obtain⟨b,off,B1,n1,B2,n2,rfl,aH,⟨g0,g1,g2,g3,g4,g5,g6,g7,g8,g9,s1,s2⟩⟩:=(bT.later rR).get hx;have dw:=congrArg (Yd R nd k) hd;rw [Yd,pZ.out] at dw;dsimp only at dw;have hik:((k+1:Nat):Int)-1=(k:Int):=Ua;rw [hik];have dY:=tl k q hx;clear pZ hik hd hx g2 g3 g4 g5 g6 g7 g8 g9 s1 s2;have hbk:b<wr.heap.size:=Ua
         cases hh:Ka R q.name
         ·rw [hh,if_neg Ul] at dw;obtain⟨ndq,hndq⟩:∃x,x=nd q:=⟨_,rfl⟩;rw [<-hndq] at dw dY;have HS:=Lib.hid dw;have HH:=Lib.hid hh;clear dw hh hndq;obtain⟨Wv,rfl⟩:∃Wv,Wv=wr:=⟨wr,rfl⟩
          go_wp2_with (first|(go_at_call 54;go_loud (refine(Yu R A cap q.name _ (lf.later Jb)).mono ?_;rw [HH.out];rintro r wh ⟨rfl,dX⟩;have fJ:=Jg dX;have nX:=dX.size;have iZ:w.heap.size<wh.heap.size:=Ua))|(go_at_call 55;go_loud (refine(dY _ Jb).mono ?_;rintro r wo ⟨⟨vo,rfl,ay⟩,cW⟩;obtain⟨Ar,cr,rfl,fF,fa⟩:=Jv ay;have kq:=Qf.of_own ay;have jY:=Jg cW;have jB:=cW.size;have nY:w.heap.size<wo.heap.size:=Ua;clear ay)))
          refine Jo fun W4 hW4=>?_;have hwo4:Below wo.heap.size wo W4:=by rw [hW4];exact Jb
          have pe:Below W3.heap.size W3 W4:=by rw [hW4];exact Jb
          have hls4:Qf W4 ndq Ar cr:=kq.later hwo4;have hz34:=pe.size;have qS:w.heap.size<W4.heap.size:=Ua;unfold maxLen at fa;clear hW4 kq hwo4 cW jY jB nY dX fJ nX iZ ky lc rP hc eh rR dY hbk
          go_loopw [13,15] (fun ok i wr=>∃(m:Nat) (b:Bool),m<=ndq.length/\i = .int .i64 m/\ok = .bool b/\Hid (b=(ndq.take m).all (Ka R))/\Below W4.heap.size W4 wr) (fun _ i _=>ndq.length-(intOf i).toNat)
          case atStart=>exact⟨0,true,Nat.zero_le _,rfl,rfl,Lib.hid rfl,Below.refl _ _⟩
          case round=>
           obtain⟨m,bb,hm,rfl,rfl,rS,da⟩:=hrel
           by_cases rA:m<ndq.length
           ·have wT:ndq[m]?=some ndq[m]:=List.getElem?_eq_getElem rA;generalize ndq[m]=s5 at wT;have aP:(ndq.take (m+1)).all (Ka R)=((ndq.take m).all (Ka R) && Ka R s5):=by rw [List.take_add_one,wT,List.all_append];simp
            rw [<-rS.out] at aP;obtain⟨b5,o5,rfl,hbb6,d5⟩:=(hls4.later da).get wT;have vD:=lf.later (pe.trans (da.mono hz34));clear rS wT
            cases bb
            ·rw [Bool.false_and] at aP;have eZ:=Lib.hid aP.symm;clear aP
             go_wp2_with fail
             go_roundw
             case rel=>exact⟨m+1,false,Ua,Up,rfl,eZ,Jb⟩
             case measure=>simp [intOf];try omega
            ·rw [Bool.true_and] at aP;have eZ:=Lib.hid aP.symm;clear aP
             go_wp2_with (first|(go_at_call 54;go_loud (refine(Yu R A cap s5 _ (vD.later Jb)).mono ?_;rintro r wh ⟨rfl,dX⟩)))
             go_roundw
             case rel=>exact⟨m+1,Ka R s5,Ua,Up,rfl,eZ,Jb⟩
             case measure=>simp [intOf];try omega
           ·obtain rfl:m=ndq.length:=Ua;have eF:=rS.out;rw [List.take_length] at eF;have dw:=HS.out;rw [<-eF] at dw;clear rS eF HS;have bZ:Below W3.heap.size W3 wr:=pe.trans (da.mono hz34)
            cases bb
            ·rw [if_neg Ul] at dw;exact Ubv
            ·rw [if_pos rfl] at dw;exact Ubv
         ·rw [hh,if_pos rfl] at dw;have HS:=Lib.hid dw;have HH:=Lib.hid hh;clear dw hh
          go_wp2_with (first|(go_at_call 54;go_loud (refine(Yu R A cap q.name _ (lf.later Jb)).mono ?_;rw [HH.out];rintro r wh ⟨rfl,dX⟩)))
          go_roundw
          case rel=>exact⟨k,l0,n0,Ua,Up,rfl,rfl,HS,Jb⟩
          case measure=>simp [intOf];try omega
theorem Jq7 {v:Value} {B s z:Nat} (am:∀k,v.ownBlock=some k->B<=k/\k<s) (hz:z<B):v.ownBlock=none\/v.ownBlock≠some z:=by
 cases hv:v.ownBlock with
 | none=>exact .inl rfl
 | some b=>exact .inr fun e=>by have:=(am b hv).1;injection e with e;omega
theorem Jap.nameCell {w:World} {l:List Qe} {b off cap k:Nat} {q:Qe} (h:Jap w l (some ⟨b,off,none⟩) cap) (hk:l[k]?=some q):w.cell? ⟨b,off+k * 10,none⟩=some (.string q.name):=by
 obtain⟨b',o',_,_,_,_,hA,_,hc⟩:=h.get hk;injection hA with e;injection e with e1 e2;subst e1 e2;exact hc.g0
theorem Jdu {B:Nat} {w w':World} (h:Below B w w'):∀b o:Nat,b<B->w'.cell? ⟨b,o,none⟩=w.cell? ⟨b,o,none⟩:=fun b o hb=>h.cell (p:=⟨b,o,none⟩) hb
theorem Jfi {B:Nat} {w w':World} (h:Below B w w'):∀b o:Nat,b<B->w'.frozen? ⟨b,o,none⟩=w.frozen? ⟨b,o,none⟩:=fun b o hb=>h.frozen (p:=⟨b,o,none⟩) hb
theorem Jql (p:Pr) (a:PrA) (w:World) (hg:Ql w) (hp:Kr w p a) (aw:Q4 p) (n1:p.ins.length<=1000000) (n2:p.outs.length<=1000000) (n3:p.locals.length<=1000000) (n4:p.eqs.length<=1000000) (aN:Qg p=(0,0,0)) :
  Calls Tryz.prog 24 #[prV p a] w fun r w'=>(∃v,r = .returned (.tuple #[v,fV (Jdx p).2])/\w'.ownsRow w.heap.size 3 1 v (Jdx p).1.length ((Jdx p).1.map (.int .i64)))/\Below w.heap.size w w':=by
 have hO:Jdx p=Jj9 (Z1 (Je p)) p.eqs (Yt 0 (fun _=>none) 0 p.eqs).2 (Yt 0 (fun _=>none) 0 p.eqs).1 (Yt 0 (fun _=>none) 0 p.eqs).2 []:=rfl;generalize Jdx p=O at *;obtain⟨FW,hFW⟩:∃F,F=Yt 0 (fun _=>none) 0 p.eqs:=⟨_,rfl⟩;rw [<-hFW] at hO;have jn:=(Xp (Xk aN).1).1
 have dn:∀q∈p.eqs,q.name.size<=maxLen/\q.e.OK/\q.e.size<=1000000:=fun q hq=>by
  obtain⟨h1,_,h2,_⟩:=Jaq ((X4 jn).2.2.2.2 q hq);exact⟨U2,(aw.eqs q hq).2.2.2,Ua⟩
 have nb:∀v∈Je p,v.name.size<=maxLen:=fun v hv=>by have:=(Jep jn v hv).1;unfold maxLen;omega
 have lg:∀q∈p.eqs,∀s∈Z1 (Je p) q,s.size<=maxLen:=fun q hq s hs=>by
  obtain⟨v,hv,rfl⟩:=Jjh aN hq hs;exact nb v hv
 have aV:=fun W h=>Jhx p a W (hg.later h) (hp.later h) n1 n2 n3 n4;have qm:=Lib.hid (fun W (h:Below w.heap.size w W)=>Jsz p a W (hp.later h) n1 n2 n3 n4 nb dn);rw [aN] at aV;clear aN jn aw hg;generalize Je p=L at *;obtain⟨nd,nq⟩:∃nd,nd=Z1 L:=⟨_,rfl⟩;have hnrow:∀g k W xs,Jde L p.eqs g k W xs->∀(j:Nat) (q:Qe),j<k->p.eqs[j]?=some q->∃A cap,xs[j]?=some (.slice A (nd q).length cap)/\Off (g+1) none W (fun V=>Qf V (nd q) A cap):=fun g k W xs h=>by rw [nq];exact h.1
 rw [<-nq] at hO lg;have HO:=Lib.hid hO;have HFW:=Lib.hid hFW;have jR:=Lib.hid dn;have HNDS:=Lib.hid lg;clear hO hFW dn lg nb nq;have dp:∀w,(Op.equalIn 10000 34 (.agg #[.int .i64 0,.int .i64 0,.int .i64 0]) (.agg #[.int .i64 0,.int .i64 0,.int .i64 0])).run Tryz.prog w = .ok true w:=fun w=>So;have fM:Tryz.prog.eqGuardType Tryz.prog.depth 34=false:=Ug;have gI:=@run_makeMap Tryz.prog;have bT:=hp.eqs;have cG:=hp.eqs.len;obtain⟨A1,c1,A2,c2,A3,c3,A4,c4⟩:=a;unfold maxLen at cG;unfold prV fV at *;dsimp only at *;obtain⟨fT,fU⟩:=cG;clear hp
 go_enter Tryz.func24,Tryz.ntmps24
 go_wp2_with (first|(go_at_call 45;refine(aV _ Jb).mono ?_;rintro r wa ⟨rfl,aA⟩;have aW:=Jg aA;have bS:=Jf aA;have cN:w.heap.size+2<=wa.heap.size:=Ut;have dG:w.heap.size<wa.heap.size:=Ua;have aX:w.heap.size+1<wa.heap.size:=Ua))
 refine Jo fun W0 ag=>?_;have ax:Below w.heap.size w W0:=Vl;have hmb1:w.heap.size+1<(wa.heap.size+1):=Ua;have hmb2:(wa.heap.size+1)<W0.heap.size:=La
 have eU:Jaj Tryz.prog 9 3 W0 (wa.heap.size+1) 0 (fun _=>none) 0:=by
  rw [ag];have h1:=Jaj.made (P:=Tryz.prog) (k:=9) (e:=3) (wa.alloc (.cells #[.int .i64 0,.int .i64 0,.int .i64 0] 34));exact Lw
 have x0:W0.cell? ⟨w.heap.size,0,none⟩=some (.string p.name):=Uc;have x1:W0.cell? ⟨w.heap.size,1,none⟩=some (.slice A1 p.ins.length c1):=Uc;have x2:W0.cell? ⟨w.heap.size,2,none⟩=some (.slice A2 p.outs.length c2):=Uc;have x3:W0.cell? ⟨w.heap.size,3,none⟩=some (.slice A3 p.locals.length c3):=Uc;have x4:W0.cell? ⟨w.heap.size,4,none⟩=some (.slice A4 p.eqs.length c4):=Uc;have f0:W0.cell? ⟨w.heap.size+1,0,none⟩=some (.int .i64 0):=Uc;have f1:W0.cell? ⟨w.heap.size+1,1,none⟩=some (.int .i64 0):=Uc;have f2:W0.cell? ⟨w.heap.size+1,2,none⟩=some (.int .i64 0):=Uc;have z0:W0.frozen? ⟨w.heap.size+1,0,none⟩=false:=Uc;have z1:W0.frozen? ⟨w.heap.size+1,1,none⟩=false:=Uc;have z2:W0.frozen? ⟨w.heap.size+1,2,none⟩=false:=Uc;have hmb0:w.heap.size<(wa.heap.size+1):=Ua;clear ag aW bS aA cN dG aX aV gI dp fM
 go_loopw [26] (fun i wr=>∃(k n c:Nat) (f:ByteArray->Option Int),k<=p.eqs.length/\i = .int .i64 k/\n<=k/\c<=k/\Hid (Jaj Tryz.prog 9 3 wr (wa.heap.size+1) n f c)/\Hid (Yt k f c (p.eqs.drop k)=FW)/\Hid (W0.grownBy wr (some (wa.heap.size+1)))) (fun i _=>p.eqs.length-(intOf i).toNat)
 case atStart=>exact⟨0,0,0,_,Nat.zero_le _,rfl,Nat.le_refl _,Nat.le_refl _,Lib.hid eU,Lib.hid (by rw [List.drop_zero];exact HFW.out.symm),Lib.hid ⟨rfl,rfl,rfl,Nat.le_refl _,fun _ _ _=>rfl⟩⟩
 case round=>
  obtain⟨k,n,c,f,hk,rfl,hn,hc,hm,nf,bB⟩:=hrel;have eC:=bB.out.size;have dh:Below w.heap.size w wr:=J2 ax bB.out (fun b hb=>U1) Ua;have iQ:Below (wa.heap.size+1) W0 wr:=J2 (Below.refl (wa.heap.size+1) W0) bB.out (fun b hb=>U1) Ua;have fG:=Jdu iQ;have wZ:=Jfi iQ;have ej:=hm.out;have dW:=hm.out.lt;have qn:w.heap.size<wr.heap.size:=Ua
  by_cases am:k<p.eqs.length
  ·obtain⟨q,hx,-,hd⟩:=Kl am;obtain⟨b,off,B1,n1,B2,n2,rfl,aH,⟨g0,g1,g2,g3,g4,g5,g6,g7,g8,g9,s1,s2⟩⟩:=(bT.later dh).get hx;have qo:=nf.out;rw [hd,Yt] at qo;have dn:=(jR.out q (List.mem_of_getElem? hx)).1;clear hd hx nf
   cases ek:(q.delay == 0)
   ·rw [ek,if_neg Ul] at qo;have HW:=Lib.hid qo;clear qo
    go_wp2_with fail
    go_roundw
    case rel=>exact⟨k+1,n,c,f,Ua,Up,Ua,Ua,Lib.hid (ej.keep1 (heap_alloc_old _ _ dW)),HW,Lib.hid (Qn bB.out (World.grownBy_alloc wr _ _))⟩
    case measure=>simp [intOf];omega
   ·rw [ek,if_pos rfl] at qo;have HW:=Lib.hid qo;clear qo
    go_wp2_with (first|(at_mapUpdate;go_loud (refine Jte rfl (.tmp 34) (.tmp 36) (.tmp 37) 116 rfl Tryz.underlying9 Tryz.underlying116 Tryz.underlying3 (wa.heap.size+1) n f c q.name (k:Int) rfl (ej.keep1 (heap_alloc_old _ _ dW)) Ua rfl rfl dn Ua ?_;intro w2 cI aG;have kj:=Lib.hid cI;have kr:=Lib.hid aG;clear cI aG)))
    go_roundw
    case rel=>exact⟨k+1,n+1,_,_,Ua,Up,Ua,by split <;> omega,kj,HW,Lib.hid (Qn bB.out (Qn (World.grownBy_alloc wr _ _) kr.out))⟩
    case measure=>simp [intOf];omega
  ·obtain rfl:k=p.eqs.length:=Ua;have qo:=nf.out;rw [List.drop_length] at qo;have hfw:FW=(f,c):=qo.symm;have ho:=HO.out;rw [hfw] at ho;have sK:=Lib.hid ho.symm;clear nf qo hfw ho HO HFW
   go_wp2_with (first|(go_at_call 46;go_loud (refine(qm.out _ Jb).mono ?_;rintro r wn ⟨⟨g,xs,rfl,rG,ae,vE⟩,dI⟩;have qJ:=Jg dI;have lF:=Jf dI;have qp:=dI.size;have xa:w.heap.size<wn.heap.size:=Ua;have hyn1:w.heap.size+1<wn.heap.size:=Ua;have tm:=Lib.hid ae;have HNR:=Lib.hid vE;clear ae vE)))
   have hmn:(wa.heap.size+1)<g:=Ua;refine Jo fun W1 bt=>?_;have hW1n:wn=W1:=by rw [bt]
   subst hW1n;have vF:Below w.heap.size w wn:=Jn dh dI Ua;have vG:Below (wa.heap.size+1) W0 wn:=iQ.trans (dI.mono Ua);have iw:Hid (Jaj Tryz.prog 9 3 wn (wa.heap.size+1) n f c):=Lib.hid (ej.bel dI);have hglt:g<wn.heap.size:=(tm.out.lt g rfl).2;clear qJ lF fG wZ iQ dh bB hm ej bt qm dI
   go_loopw [9] (fun o wr=>∃(c:Nat) (f:ByteArray->Option Int) (B:Option Addr) (bc:Nat) (out:List Int),out.length+c<=1000000/\o = .slice B out.length bc/\Hid (Jaj Tryz.prog 9 3 wr (wa.heap.size+1) n f c)/\Hid (Jj9 nd p.eqs c f c out=O)/\Hid (wr.ownsRow wn.heap.size 3 1 (.slice B out.length bc) out.length (out.map (.int .i64)))/\Hid (wn.grownBy wr (some (wa.heap.size+1)))) (fun o _=>1000000-Jfh o)
   case atStart=>exact⟨c,f,none,0,[],Uj,rfl,iw,sK,Lib.hid (World.ownsRow_nil _ _ _ _),Lib.hid ⟨rfl,rfl,rfl,Nat.le_refl _,fun _ _ _=>rfl⟩⟩
   case round=>
    clear iw sK hc;obtain⟨c,f,B,bc,out,lq,rfl,hm,aa,iX,bB⟩:=hrel;have eC:=bB.out.size;have aC:Below w.heap.size w wr:=J2 vF bB.out (fun b hb=>U1) Ua;have iQ:Below (wa.heap.size+1) W0 wr:=J2 vG bB.out (fun b hb=>U1) Ua;have fG:=Jdu iQ;have wZ:=Jfi iQ;have wD:w.heap.size+1<wr.heap.size:=Ua;have tL:w.heap.size<wr.heap.size:=Ua
    cases c with
    | zero=>
     have hv:O=(out,(0,0,0)):=by rw [<-aa.out];rfl
     have ql:=iX.out;have HV:=Lib.hid hv;clear hv aa
     go_wp2_with (first|(at_len;go_loud (refine Jjm rfl (.tmp 41) 116 rfl Tryz.underlying116 (wa.heap.size+1) n f 0 rfl hm.out ?_)))
     refine bodyPost_ret (v:= .tuple #[.slice B out.length bc,.agg #[.int .i64 0,.int .i64 0,.int .i64 0]]) Gq rfl ⟨⟨.slice B out.length bc,Vp,?_⟩,?_⟩
     ·rw [HV.out];dsimp only;refine K8 (B:=wn.heap.size) ?_ Ua
      (repeat first|(with_reducible assumption)|refine Js ?_|refine Kp ?_|refine Kn ?_ (fun b hb=>Sn) _ _)
     ·(repeat refine Jh ?_)
      exact Km
    | succ c=>
     have gm:=aa.out;rw [Jj9,if_pos Ua,Nat.add_sub_cancel] at gm;obtain⟨S,hS⟩:∃S,S=Jbi f nd 0 p.eqs (-1):=⟨_,rfl⟩;rw [<-hS] at gm;have wY:=Lib.hid gm;have tN:=Lib.hid hS;clear gm aa hS;obtain⟨W3,rfl⟩:∃W3,W3=wr:=⟨wr,rfl⟩;have ss:(0:Int)<((c+1:Nat):Int):=Ua;have hw3g:g<W3.heap.size:=Ua
     go_wp2_with (first|(at_len;go_loud (refine Jjm rfl (.tmp 41) 116 rfl Tryz.underlying116 (wa.heap.size+1) n f (c+1) rfl hm.out ?_)))
     go_loopw [10,11,47] (fun x l i wr=>∃(k:Nat) (m0:Int),k<=p.eqs.length/\i = .int .i64 k/\x = .int .i64 (-1)/\l = .int .i64 m0/\Hid (Jbi f nd k (p.eqs.drop k) m0=S)/\Below W3.heap.size W3 wr) (fun _ _ i _=>p.eqs.length-(intOf i).toNat)
     case atStart=>exact⟨0,-1,Nat.zero_le _,rfl,rfl,rfl,Lib.hid (by rw [List.drop_zero];exact tN.out.symm),Below.refl _ _⟩
     case round=>
      obtain⟨k,m0,hk,rfl,rfl,rfl,pZ,dB⟩:=hrel;have rR:Below w.heap.size w wr:=Jn aC dB Ua;have ky:=Jg dB;have lc:=Jf dB;have rP:=dB.size;have hwv:w.heap.size<wr.heap.size:=Ua;have hwv1:w.heap.size+1<wr.heap.size:=Ua;have hwvg:g<wr.heap.size:=Ua
      by_cases am:k<p.eqs.length
      ·obtain⟨q,hx,-,hd⟩:=Kl am;obtain⟨b,off,B1,n1,B2,n2,rfl,aH,⟨g0,g1,g2,g3,g4,g5,g6,g7,g8,g9,s1,s2⟩⟩:=(bT.later rR).get hx;have dw:=pZ.out;rw [hd,Jbi] at dw;obtain⟨Ar,cr,sd,fb⟩:=hnrow g _ _ xs HNR.out k q am hx;have kq:Qf wr (nd q) Ar cr:=fb wr (fun b h1 h2 _=>(dB.block b Ua).trans (bB.out.block b h2 Vc));have r0:W3.cell? ⟨g,k,none⟩=some (.slice Ar (nd q).length cr):=Jr (bB.out.block g hglt Vc) ((tm.out.cellAt k Ua).trans sd);have ej:=hm.out.bel dB;have dW:=ej.lt;have aj:=List.mem_of_getElem? hx;have dn:=(jR.out q aj).1;have lg:=HNDS.out q aj;have HX:=Lib.hid hx;have hbk:b<wr.heap.size:=Ua;clear sd fb hd hx pZ aj s1 s2
       rcases lF:f q.name with _|v
       ·rw [lF,if_neg Ul] at dw;have rb:=Lib.hid lF;have vH:=Lib.hid dw;clear lF dw;exact Uao
       by_cases uY:v=(k:Int)
       ·subst uY;rw [lF,if_pos rfl] at dw;have rb:=Lib.hid lF;have t5:((k:Int) != (k:Int))=false:=Ul;clear lF
        cases xb:Jb2 f (nd q)
        ·rw [xb,if_neg Ul] at dw;have HRD:=Lib.hid xb;clear xb
         by_cases eU:m0<0
         ·rw [if_pos eU] at dw;have vH:=Lib.hid dw;clear dw
          go_wp2_with (first|(at_lookup;go_loud (refine Qh rfl (.tmp 53) (.tmp 55) 116 rfl Tryz.underlying9 Tryz.underlying116 Tryz.underlying3 (Kj _) (wa.heap.size+1) n f q.name rfl ((ej.keep1 (heap_alloc_old _ _ dW)).plain) rfl dn ?_;rw [rb.out];simp only [Option.getD_none,Option.isSome_none,Option.getD_some,Option.isSome_some]))|(go_at_call 47;go_loud (refine(Jf0 (nd q) Ar cr (wa.heap.size+1) n f _ (kq.later Jb) ((ej.keep1 (heap_alloc_old _ _ dW)).plain) lg).mono ?_;rw [HRD.out];rintro r wy ⟨rfl,gl⟩;have hcy:=Jg gl;have hfy:=Jf gl;have hzy:wr.heap.size+1<=wy.heap.size:=Gf;have hyy:w.heap.size<wy.heap.size:=Ua;have pu:w.heap.size+1<wy.heap.size:=Ua)))
          go_roundw
          case rel=>exact⟨k+1,k,Ua,Up,rfl,rfl,vH,Jb⟩
          case measure=>simp [intOf];try omega
         ·rw [if_neg eU] at dw;have vH:=Lib.hid dw;clear dw
          go_wp2_with (first|(at_lookup;go_loud (refine Qh rfl (.tmp 53) (.tmp 55) 116 rfl Tryz.underlying9 Tryz.underlying116 Tryz.underlying3 (Kj _) (wa.heap.size+1) n f q.name rfl ((ej.keep1 (heap_alloc_old _ _ dW)).plain) rfl dn ?_;rw [rb.out];simp only [Option.getD_none,Option.isSome_none,Option.getD_some,Option.isSome_some]))|(go_at_call 47;go_loud (refine(Jf0 (nd q) Ar cr (wa.heap.size+1) n f _ (kq.later Jb) ((ej.keep1 (heap_alloc_old _ _ dW)).plain) lg).mono ?_;rw [HRD.out];rintro r wy ⟨rfl,gl⟩;have hcy:=Jg gl;have hfy:=Jf gl;have hzy:wr.heap.size+1<=wy.heap.size:=Gf;have hyy:w.heap.size<wy.heap.size:=Ua;have pu:w.heap.size+1<wy.heap.size:=Ua)))
          go_roundw
          case rel=>exact⟨k+1,m0,Ua,Up,rfl,rfl,vH,Jb⟩
          case measure=>simp [intOf];try omega
        ·rw [xb,if_pos rfl] at dw;have HRD:=Lib.hid xb;have gm:=wY.out;rw [<-dw] at gm;dsimp only at gm;rw [if_neg Ua,Jms (q:=q) (by rw [Int.toNat_natCast];exact HX.out)] at gm;have HV:=Lib.hid gm;have eR:¬((k:Int)<0):=Ua;clear xb dw gm wY tN
         by_cases eU:m0<0
         ·exact Ts
         ·exact Ts
       ·rw [lF,if_neg (by intro e;injection e with e;exact uY e)] at dw;have rb:=Lib.hid lF;have vH:=Lib.hid dw;have t5:(v != (k:Int))=true:=by simpa using uY
        clear lF dw uY;exact Uao
      ·obtain rfl:k=p.eqs.length:=Ua;have dw:=pZ.out;rw [List.drop_length,Jbi] at dw;have gm:=wY.out;rw [<-dw] at gm;dsimp only at gm;rw [if_pos Ux] at gm;have HV:=Lib.hid gm;clear gm dw pZ
       go_wp2_with fail
       refine bodyPost_ret (v:= .tuple #[.slice none 0 0,.agg #[.int .i64 3,.int .i64 m0,.int .i64 22]]) Gq rfl ⟨⟨.slice none 0 0,by rw [<-HV.out],?_⟩,?_⟩
       ·rw [<-HV.out];exact World.ownsRow_nil _ _ _ _
       ·(repeat refine Jh ?_)
        exact Km
theorem Jfr (p:Pr) (a:PrA) (w:World) (hg:Ql w) (hp:Kr w p a) (aw:Q4 p) (n1:p.ins.length<=1000000) (n2:p.outs.length<=1000000) (n3:p.locals.length<=1000000) (n4:p.eqs.length<=1000000) :
  Calls Tryz.prog 24 #[prV p a] w fun r w'=>(∃v,r = .returned (.tuple #[v,fV (J1 p).2])/\w'.ownsRow w.heap.size 3 1 v (J1 p).1.length ((J1 p).1.map (.int .i64)))/\Below w.heap.size w w':=by
 by_cases aN:Qg p=(0,0,0)
 ·have h:=Jql p a w hg hp aw n1 n2 n3 n4 aN;rw [show J1 p=Jdx p by unfold J1;rw [if_pos aN,Jtf aN]];exact h
 ·refine(Jqt p a w hg hp n1 n2 n3 n4 aN).mono ?_;exact Ubx
theorem Jg8 (p:Pr) (a:PrA) (w:World) (hp:Kr w p a) (aw:Q4 p) (n1:p.ins.length<=1000000) (n2:p.outs.length<=1000000) (n3:p.locals.length<=1000000) (n4:p.eqs.length<=1000000) :
  Calls Tryz.prog 29 #[prV p a] w fun r w'=>(∃v,r = .returned (.tuple #[v,fV (J1 p).2])/\w'.ownsRow w.heap.size 3 1 v (J1 p).1.length ((J1 p).1.map (.int .i64)))/\Below w.heap.size w w':=by
 by_cases aN:Qg p=(0,0,0)
 ·have h:=Jou p a w hp aw n1 n2 n3 n4 aN;rw [show J1 p=Jbo p by unfold J1;rw [if_pos aN]];exact h
 ·refine(Jqb p a w hp aw n1 n2 n3 n4 aN).mono ?_;exact Ubx
theorem Yq.take {w:World} {l:List Int} {A:Option Addr} {cap:Nat} (h:Yq w l A cap) (k:Nat):Yq w (l.take k) A cap:=
 ⟨by have:=h.1;simp;omega,h.2.1,fun hl=>by
  obtain⟨b,off,hA,hr⟩:=h.2.2 (by simp at hl;omega);exact⟨b,off,hA,fun j x hj=>hr j x (by rw [List.getElem?_take] at hj;split at hj <;> simp_all)⟩⟩
theorem Jr6 (p:Pr) (a:PrA) (w:World) (hg:Ql w) (hp:Kr w p a) (aw:Q4 p) (n1:p.ins.length<=1000000) (n2:p.outs.length<=1000000) (n3:p.locals.length<=1000000) (n4:p.eqs.length<=1000000) (aS:(J1 p).2≠(0,0,0)) :
  Calls Tryz.prog 107 #[prV p a] w fun r w'=>r = .returned (.tuple #[.map none,fV (J1 p).2])/\Below w.heap.size w w':=by
 have dY:=fun W h=>Jfr p a W (hg.later h) (hp.later h) aw n1 n2 n3 n4;clear hg aw;obtain⟨A1,c1,A2,c2,A3,c3,A4,c4⟩:=a;unfold prV fV at *;dsimp only at *;generalize J1 p=O at *;obtain⟨l,f1,f2,f3⟩:=O;dsimp only at *
 have mA:(f1 == 0 && f2 == 0 && f3 == 0)=false:=by
  exact Ucl
 have dp:∀w,(Op.equalIn 10000 34 (.agg #[.int .i64 f1,.int .i64 f2,.int .i64 f3]) (.agg #[.int .i64 0,.int .i64 0,.int .i64 0])).run Tryz.prog w = .ok false w:=fun w=>by rw [Zr,mA]
 have fM:Tryz.prog.eqGuardType Tryz.prog.depth 34=false:=Ug;clear aS mA hp
 go_enter Tryz.func107,Tryz.ntmps107
 go_wp2_with (first|(go_at_call 24;go_loud (refine(dY _ Jb).mono ?_;rintro r wo ⟨⟨vo,rfl,ay⟩,cW⟩;obtain⟨Ao,co,rfl,ln,jm⟩:=Jv ay;have jY:=Jg cW;have lz:=Jf cW;have jB:w.heap.size+2<=wo.heap.size:=Ln;have nY:w.heap.size<wo.heap.size:=Ua;have jA:w.heap.size+1<wo.heap.size:=Ua;clear ay)))
 go_region
 all_goals
  go_wp2_with fail
  refine bodyPost_ret (v:= .tuple #[.map none,.agg #[.int .i64 f1,.int .i64 f2,.int .i64 f3]]) (by simp [results,Tryz.results107,go_sem, *]) rfl ⟨rfl,?_⟩
  (repeat refine Jh ?_)
  exact Km
theorem Jfo {p:Pr} (aN:Qg p=(0,0,0)) (aw:Q4 p):∀q∈p.eqs,q.name.size<=maxLen/\q.name.toList.isEmpty=false/\q.e.formed=true/\q.e.OK/\q.e.size<=1000000:=fun q hq=>by
 have hb:=(X4 (Xp (Xk aN).1).1).2.2.2.2 q hq;obtain⟨h1,h2,h3,_⟩:=Jaq hb;simp only [eqB,Bool.and_eq_true] at hb;exact⟨U2,Jbx hb.1.1,h2,(aw.eqs q hq).2.2.2,Ua⟩
theorem Jti (p:Pr) (a:PrA) (w:World) (hg:Ql w) (hp:Kr w p a) (aw:Q4 p) (n1:p.ins.length<=1000000) (n2:p.outs.length<=1000000) (n3:p.locals.length<=1000000) (n4:p.eqs.length<=1000000) (jM:(J1 p).2=(0,0,0)) :
  Calls Tryz.prog 107 #[prV p a] w fun r w'=>(∃(B n:Nat) (f:ByteArray->Option Int),r = .returned (.tuple #[.map (some B),fV (0,0,0)])/\w.heap.size<=B/\Jz Tryz.prog 9 3 w' B n f/\Jc7 f (Qs p).1)/\Below w.heap.size w w':=by
 obtain⟨LF,nl⟩:∃L,L=(Qs p).1:=⟨_,rfl⟩;have hL:LF=Xj p.eqs (Jbj p.eqs) (J1 p).1:=by rw [nl];unfold Qs;rw [if_pos jM]
 rw [<-nl];obtain⟨aN,ai,fm⟩:=Yg jM;have dn:=Jfo aN aw;have dY:=fun W h=>Jfr p a W (hg.later h) (hp.later h) aw n1 n2 n3 n4;obtain⟨l,hl⟩:∃l,J1 p=(l,(0,0,0)):=⟨(J1 p).1,by rw [<-jM]⟩;rw [hl] at dY hL fm ai;dsimp only at dY hL fm ai;have HL:=Lib.hid hL;have HG:=Lib.hid fm;have jR:=Lib.hid dn;clear nl hL jM aN dn fm hl hg aw;have dp:∀w,(Op.equalIn 10000 34 (.agg #[.int .i64 0,.int .i64 0,.int .i64 0]) (.agg #[.int .i64 0,.int .i64 0,.int .i64 0])).run Tryz.prog w = .ok true w:=fun w=>So;have fM:Tryz.prog.eqGuardType Tryz.prog.depth 34=false:=Ug;have gI:=@run_makeMap Tryz.prog;have bT:=hp.eqs;have cG:=hp.eqs.len;obtain⟨A1,c1,A2,c2,A3,c3,A4,c4⟩:=a;unfold maxLen at cG;unfold prV fV at *;dsimp only at *;obtain⟨fT,fU⟩:=cG;clear hp
 go_enter Tryz.func107,Tryz.ntmps107
 go_wp2_with (first|(go_at_call 24;go_loud (refine(dY _ Jb).mono ?_;rintro r wo ⟨⟨vo,rfl,ay⟩,cW⟩;obtain⟨Ao,co,rfl,ln,jm⟩:=Jv ay;have lr:=Yq.of_own ay;have jY:=Jg cW;have lz:=Jf cW;have jB:w.heap.size+2<=wo.heap.size:=Ln;have nY:w.heap.size<wo.heap.size:=Ua;have jA:w.heap.size+1<wo.heap.size:=Ua;clear ay)))
 refine Jo fun W0 ag=>?_;have ax:Below w.heap.size w W0:=Vl;have hmb1:w.heap.size+1<wo.heap.size+1:=Ua;have hmb0:w.heap.size<wo.heap.size+1:=Ua;have hmb3:wo.heap.size<wo.heap.size+1:=Ua;have hmb2:wo.heap.size+1<W0.heap.size:=La
 have eU:Jz Tryz.prog 9 3 W0 (wo.heap.size+1) 0 (fun _=>none):=by
  rw [ag];have h1:=Jz.made (P:=Tryz.prog) (k:=9) (e:=3) (wo.alloc (.cells #[.int .i64 0,.int .i64 0,.int .i64 0] 34));exact Lw
 have rY:Below wo.heap.size wo W0:=Vl;have x4:W0.cell? ⟨w.heap.size,4,none⟩=some (.slice A4 p.eqs.length c4):=Uc;have f0:W0.cell? ⟨w.heap.size+1,0,none⟩=some (.int .i64 0):=Uc;have f1:W0.cell? ⟨w.heap.size+1,1,none⟩=some (.int .i64 0):=Uc;have f2:W0.cell? ⟨w.heap.size+1,2,none⟩=some (.int .i64 0):=Uc;have v0:W0.cell? ⟨wo.heap.size,0,none⟩=some (.int .i64 0):=Uc;have v1:W0.cell? ⟨wo.heap.size,1,none⟩=some (.int .i64 0):=Uc;have v2:W0.cell? ⟨wo.heap.size,2,none⟩=some (.int .i64 0):=Uc;have z0:W0.frozen? ⟨w.heap.size+1,0,none⟩=false:=Uc;have z1:W0.frozen? ⟨w.heap.size+1,1,none⟩=false:=Uc;have z2:W0.frozen? ⟨w.heap.size+1,2,none⟩=false:=Uc;have bI:=lr.1;unfold maxLen at jm;clear ag jY lz jB nY jA dY gI dp fM cW
 go_loopw [24] (fun i wr=>∃(k n:Nat) (f:ByteArray->Option Int),k<=p.eqs.length/\i = .int .i64 k/\n<=k/\Hid (Jz Tryz.prog 9 3 wr (wo.heap.size+1) n f)/\Hid (Jc7 f (Jbj (p.eqs.take k)))/\Hid (W0.grownBy wr (some (wo.heap.size+1)))) (fun i _=>p.eqs.length-(intOf i).toNat)
 case atStart=>exact⟨0,0,_,Nat.zero_le _,rfl,Nat.le_refl _,Lib.hid eU,Lib.hid Juq,Lib.hid ⟨rfl,rfl,rfl,Nat.le_refl _,fun _ _ _=>rfl⟩⟩
 case round=>
  obtain⟨k,n,f,hk,rfl,hn,hm,kz,bB⟩:=hrel;have eC:=bB.out.size;have dh:Below w.heap.size w wr:=J2 ax bB.out (fun b hb=>U1) Ua;have iQ:Below (wo.heap.size+1) W0 wr:=J2 (Below.refl _ W0) bB.out (fun b hb=>U1) Ua;have fG:=Jdu iQ;have wZ:=Jfi iQ;have ej:=hm.out;have dW:=hm.out.lt;have qn:w.heap.size<wr.heap.size:=Ua
  by_cases am:k<p.eqs.length
  ·obtain⟨q,hx,-,hd⟩:=Kl am;obtain⟨b,off,B1,n1,B2,n2,rfl,aH,⟨g0,g1,g2,g3,g4,g5,g6,g7,g8,g9,s1,s2⟩⟩:=(bT.later dh).get hx;have jk:=Jlf p.eqs hx;obtain⟨dn,gX,_⟩:=jR.out q (List.mem_of_getElem? hx);clear hd hx
   cases ek:(q.delay == 2)
   ·rw [ek,if_neg Ul] at jk;have HA:=Lib.hid (by rw [jk];exact kz.out:Jc7 f (Jbj (p.eqs.take (k+1))));clear jk gX
    go_wp2_with fail
    go_roundw
    case rel=>exact⟨k+1,n,f,Ua,Up,Ua,Lib.hid (ej.keep1 (heap_alloc_old _ _ dW)),HA,Lib.hid (Qn bB.out (World.grownBy_alloc wr _ _))⟩
    case measure=>simp [intOf];try omega
   ·rw [ek,if_pos rfl] at jk;have HA:=Lib.hid (by rw [jk];exact Jlu kz.out gX:Jc7 (upd f q.name 1) (Jbj (p.eqs.take (k+1))));clear jk gX
    go_wp2_with (first|(at_mapUpdate;go_loud (refine Jau rfl (.tmp 31) (.tmp 33) _ 179 rfl Tryz.underlying9 Tryz.underlying179 Tryz.underlying3 (wo.heap.size+1) n f q.name 1 rfl (ej.keep1 (heap_alloc_old _ _ dW)) Ua rfl rfl dn Ua ?_;intro w2 cI aG;have kj:=Lib.hid cI;have kr:=Lib.hid aG;clear cI aG)))
    go_roundw
    case rel=>exact⟨k+1,n+1,_,Ua,Up,Ua,kj,HA,Lib.hid (Qn bB.out (Qn (World.grownBy_alloc wr _ _) kr.out))⟩
    case measure=>simp [intOf];try omega
  ·obtain rfl:k=p.eqs.length:=Ua;have vX:=kz.out;rw [List.take_length] at vX;have HAG:=Lib.hid vX;clear kz vX
   go_wp2_with fail
   clear fG wZ ej dW qn dh iQ
   go_loopw [37] (fun i wr=>∃(k n:Nat) (f:ByteArray->Option Int) (out:List ByteArray),k<=l.length/\i = .int .i64 k/\n<=p.eqs.length+k/\Hid (Jz Tryz.prog 9 3 wr (wo.heap.size+1) n f)/\Hid (Jc7 f out)/\Hid (Xj p.eqs out (l.drop k)=LF)/\Hid (W0.grownBy wr (some (wo.heap.size+1)))) (fun i _=>l.length-(intOf i).toNat)
   case atStart=>exact⟨0,n,f,Jbj p.eqs,Nat.zero_le _,rfl,Ua,hm,HAG,Lib.hid (by rw [List.drop_zero];exact HL.out.symm),bB⟩
   case round=>
    clear HAG hm bB eC;obtain⟨k,n,f,out,hk,rfl,hn,hm,kz,aa,bB⟩:=hrel;have eC:=bB.out.size;have dh:Below w.heap.size w wr:=J2 ax bB.out (fun b hb=>U1) Ua;have iQ:Below (wo.heap.size+1) W0 wr:=J2 (Below.refl _ W0) bB.out (fun b hb=>U1) Ua;have fG:=Jdu iQ;have wZ:=Jfi iQ;have ej:=hm.out;have dW:=hm.out.lt;have qn:w.heap.size<wr.heap.size:=Ua;have hiw:Below wo.heap.size wo wr:=J2 rY bB.out (fun b hb=>U1) Ua
    by_cases am:k<l.length
    ·have hx:l[k]?=some l[k]:=List.getElem?_eq_getElem am;have hd:l.drop k=l[k] :: l.drop (k+1):=List.drop_eq_getElem_cons am;generalize l[k]=j at hx hd;obtain⟨m,q,rfl,hq⟩:=HG.out k j hx;have yp:m<p.eqs.length:=(List.getElem?_eq_some_iff.1 hq).1;obtain⟨bi,oi,rfl,pU,di⟩:=(lr.later hiw).get hx;obtain⟨b,off,B1,m1,B2,m2,rfl,aH,⟨g0,g1,g2,g3,g4,g5,g6,g7,g8,g9,s1,s2⟩⟩:=(bT.later dh).get hq;obtain⟨dn,gX,cM,gV,ju⟩:=jR.out q (List.mem_of_getElem? hq);have hr:=aa.out;rw [hd,Xj,Int.toNat_natCast,hq] at hr;dsimp only at hr;rw [<-kz.out.reach] at hr;have hZ:=fun W h=>Jgc q.e B2 m2 (wo.heap.size+1) n f W (s2.later h) cM gV ju (ej.bel h);unfold exV at hZ;clear hd hx hq aa cM gV ju s1 g1 g2 g3 g4 g5
     cases eY:q.e.reach (onM f)
     ·rw [eY,if_neg Ul] at hr;have lv:=Lib.hid eY;have HR:=Lib.hid hr;clear eY hr gX
      go_wp2_with (first|(go_at_call 108;go_loud (refine(hZ _ Jb).mono ?_;rw [lv.out];rintro r w1 ⟨rfl,ac⟩;have ak:=Jg ac;have af:=ac.size;have bV:w.heap.size<w1.heap.size:=Ua)))
      go_roundw
      case rel=>exact⟨k+1,n,f,out,Ua,Up,Ua,Lib.hid (ej.bel ac),kz,HR,Lib.hid (Qn bB.out (Jat ac))⟩
      case measure=>simp [intOf];try omega
     ·rw [eY,if_pos rfl] at hr;have lv:=Lib.hid eY;have HR:=Lib.hid hr;have HA:=Lib.hid (Jlu kz.out gX);clear eY hr gX
      go_wp2_with (first|(go_at_call 108;go_loud (refine(hZ _ Jb).mono ?_;rw [lv.out];rintro r w1 ⟨rfl,ac⟩;have ak:=Jg ac;have af:=ac.size;have bV:w.heap.size<w1.heap.size:=Ua))|(at_mapUpdate;go_loud (refine Jau rfl (.tmp 49) (.tmp 55) _ 179 rfl Tryz.underlying9 Tryz.underlying179 Tryz.underlying3 (wo.heap.size+1) n f q.name 1 rfl (ej.bel ac) Ua rfl rfl dn Ua ?_;intro w2 cI aG;have kj:=Lib.hid cI;have kr:=Lib.hid aG;clear cI aG)))
      go_roundw
      case rel=>exact⟨k+1,n+1,_,out ++ [q.name],Ua,Up,Ua,kj,HA,HR,Lib.hid (Qn bB.out (Qn (Jat ac) kr.out))⟩
      case measure=>simp [intOf];try omega
    ·obtain rfl:k=l.length:=Ua;have hr:=aa.out;rw [List.drop_length,Xj] at hr;have HR:=Lib.hid hr;clear hr aa
     go_wp2_with fail
     go_region
     all_goals
      go_wp2_with fail
      refine bodyPost_ret (v:= .tuple #[.map (some (wo.heap.size+1)),.agg #[.int .i64 0,.int .i64 0,.int .i64 0]]) (by simp [results,Tryz.results107,go_sem, *]) rfl ⟨⟨wo.heap.size+1,n,f,rfl,Ua,?_,by rw [<-HR.out];exact kz.out⟩,?_⟩
      ·refine ej.keep1 ?_
       (repeat first|rfl|refine(heap_setCell_other _ _ _ _ (by show wo.heap.size+1≠w.heap.size+1;omega)).trans ?_)
      ·(repeat refine Jh ?_)
       exact Km
end Go.Proofs.YtknfcamdfdfoeaaGreatDoor
