/- Lemmas. -/
import Derived.Test.YtdgjplldlfeolaaGreatDoorZ39
import Derived.BigRegion
import Derived.Test.YtdgjplldlfeolaaGreatDoorZ37
import Derived.Test.YtdgjplldlfeolaaGreatDoorZ35
import Derived.Test.YtdgjplldlfeolaaGreatDoorZ02
set_option linter.unusedVariables false
set_option linter.unusedSimpArgs false
set_option maxRecDepth 100000
set_option maxHeartbeats 64000000
namespace Go.Proofs.YtdgjplldlfeolaaGreatDoor
open Go.RowKit Go.Sort Go.Maps Go.ChangeMaps Go.WideMaps
theorem Jqc {p:Pr} (h:Ks p≠(0,0,0)):(Kf p)=([],Ks p):=by unfold Kf;rw [if_neg h]
theorem Jbh.of_own {w:World} {base:Nat} {e:TypeId} {l:List Ce} {v:Value} (h:w.ownsRow base e 4 v l.length (X7 l)):∃A cap,v = .slice A l.length cap/\Jbh w l A cap:=by
 obtain⟨A,cap,rfl,h1,h2⟩:=Jv h;refine⟨A,cap,rfl,h1,h2,Jph l,fun hm=>?_⟩;obtain⟨g,c',hv,_,_,_,_,hc⟩:=Kc h hm;injection hv with e1 e2 e3;subst e1;exact⟨g,0,rfl,fun j u hj=>by rw [Nat.zero_add];exact hc j u hj⟩
theorem Jsx (p:Pr) (a:PrA) (w:World) (f:Int×Int×Int) (qe:∀W,Below w.heap.size w W->Calls Tryz.prog 117 #[prV p a] W fun r w'=>r = .returned (.tuple #[.pointer none,fV f])/\Below W.heap.size W w') :
  Calls Tryz.prog 100 #[prV p a] w fun r w'=>r = .returned (.tuple #[.slice none 0 0,fV f])/\Below w.heap.size w w':=by
 obtain⟨A1,c1,A2,c2,A3,c3,A4,c4⟩:=a;obtain⟨k1,k2,k3⟩:=f;unfold prV fV at *;dsimp only at *
 go_enter Tryz.func100,Tryz.ntmps100
 go_wp2_with (first|(go_at_call 117;refine(qe _ Jb).mono ?_;rintro r wa ⟨rfl,aA⟩;have aW:=Jg aA;have bS:=Jf aA;have cN:w.heap.size+2<=wa.heap.size:=(by have:=aA.size;simpa using this);have dG:w.heap.size<wa.heap.size:=(by omega);have aX:w.heap.size+1<wa.heap.size:=(by omega)))
 go_region
 all_goals
  go_wp2_with fail
  refine bodyPost_ret (v:= .tuple #[.slice none 0 0,.agg #[.int .i64 k1,.int .i64 k2,.int .i64 k3]]) (by simp [results,Tryz.results100,go_sem, *]) rfl ⟨rfl,?_⟩
  (repeat refine Jh ?_)
  exact Km
theorem Jrx (p:Pr) (a:PrA) (w:World) (qe:∀W,Below w.heap.size w W->Calls Tryz.prog 117 #[prV p a] W fun r w'=>(∃X v,r = .returned (.tuple #[.pointer (some ⟨X,0,none⟩),fV (0,0,0)])/\w'.cell? ⟨X,6,none⟩=some v/\w'.ownsRow W.heap.size 212 4 v (Jq p).length (X7 (Jq p)))/\Below W.heap.size W w') :
  Calls Tryz.prog 100 #[prV p a] w fun r w'=>(∃v,r = .returned (.tuple #[v,fV (0,0,0)])/\w'.ownsRow w.heap.size 212 4 v (Jq p).length (X7 (Jq p)))/\Below w.heap.size w w':=by
 obtain⟨A1,c1,A2,c2,A3,c3,A4,c4⟩:=a;unfold prV fV at *;dsimp only at *
 go_enter Tryz.func100,Tryz.ntmps100
 go_wp2_with (first|(go_at_call 117;refine(qe _ Jb).mono ?_;rintro r wa ⟨⟨X,v,rfl,rJ,ae⟩,aA⟩;obtain⟨Ac,cc,rfl,oS,nx⟩:=Jv ae;have pO:=block_lt_of_cell rJ;have aW:=Jg aA;have bS:=Jf aA;have cN:w.heap.size+2<=wa.heap.size:=(by have:=aA.size;simpa using this);have dG:w.heap.size<wa.heap.size:=(by omega);have aX:w.heap.size+1<wa.heap.size:=(by omega)))
 refine Jo fun W0 ag=>?_;have ax:Below w.heap.size w W0:=by rw [ag];exact Jb
 have aQ:Below wa.heap.size wa W0:=by rw [ag];exact Jb
 have x6:=Ja aQ rJ;have g0:W0.cell? ⟨w.heap.size+1,0,none⟩=some (.int .i64 0):=Ja aQ (by rw [aW _ _ (by simp)];go_simp);have g1:W0.cell? ⟨w.heap.size+1,1,none⟩=some (.int .i64 0):=Ja aQ (by rw [aW _ _ (by simp)];go_simp);have g2:W0.cell? ⟨w.heap.size+1,2,none⟩=some (.int .i64 0):=Ja aQ (by rw [aW _ _ (by simp)];go_simp);have f0:W0.frozen? ⟨w.heap.size+1,0,none⟩=false:=(Jf aQ _ _ aX).trans ((bS _ _ (by simp)).trans (by go_simp));have f1:W0.frozen? ⟨w.heap.size+1,1,none⟩=false:=(Jf aQ _ _ aX).trans ((bS _ _ (by simp)).trans (by go_simp));have f2:W0.frozen? ⟨w.heap.size+1,2,none⟩=false:=(Jf aQ _ _ aX).trans ((bS _ _ (by simp)).trans (by go_simp));have e0:W0.cell? ⟨wa.heap.size,0,none⟩=some (.int .i64 0):=by rw [ag];go_simp
 have e1:W0.cell? ⟨wa.heap.size,1,none⟩=some (.int .i64 0):=by rw [ag];go_simp
 have e2:W0.cell? ⟨wa.heap.size,2,none⟩=some (.int .i64 0):=by rw [ag];go_simp
 have lw:∀b,(Value.slice Ac (Jq p).length cc).ownBlock=some b->b≠w.heap.size+1:=fun b hb he=>by have:=(ae.lt b hb).1;simp at this;omega
 have HOW:=Lib.hid (Jy (K8 ae (B':=w.heap.size) (by simp;omega)) aQ);clear ag aW bS aA aQ rJ ae
 go_region
 all_goals
  go_wp2_with fail
  refine bodyPost_ret (v:= .tuple #[.slice Ac (Jq p).length cc,.agg #[.int .i64 0,.int .i64 0,.int .i64 0]]) (by simp [results,Tryz.results100,go_sem, *]) rfl ?_;refine⟨⟨_,rfl,Kn (Kn (Kn HOW.out lw 0 _) lw 1 _) lw 2 _⟩,?_⟩
  (repeat refine Jh ?_)
  exact Km
theorem Jyg (p:Pr) (a:PrA) (w:World) (hg:Ql w) (hp:Kr w p a) (aw:Ke5 p) (n1:p.ins.length<=1000000) (n2:p.outs.length<=1000000) (n3:p.locals.length<=1000000) (n4:p.eqs.length<=1000000) (hf:(Kf p).2≠(0,0,0)) :
  Calls Tryz.prog 117 #[prV p a] w fun r w'=>r = .returned (.tuple #[.pointer none,fV (Kf p).2])/\Below w.heap.size w w':=by
 by_cases hS:Ks p=(0,0,0)
 ·have dP:16<(Jq p).length:=by
   by_cases hb:16<(Jq p).length
   ·exact hb
   ·exact absurd (by unfold Kf;rw [if_pos hS,if_neg hb]) hf
  refine(Jla p a w hg hp aw n1 n2 n3 n4 hS).mono fun r w' h=>?_;unfold Jkv at h;rw [if_pos dP] at h;rw [show(Kf p).2=(4,0,3) by unfold Kf;rw [if_pos hS,if_pos dP]];exact h
 ·rw [Jqc hS];exact Jta p a w hg hp aw n1 n2 n3 n4 hS
theorem Jwb (p:Pr) (a:PrA) (w:World) (hg:Ql w) (hp:Kr w p a) (aw:Ke5 p) (n1:p.ins.length<=1000000) (n2:p.outs.length<=1000000) (n3:p.locals.length<=1000000) (n4:p.eqs.length<=1000000) (hS:Ks p=(0,0,0)) (hb:¬16<(Jq p).length) :
  Calls Tryz.prog 117 #[prV p a] w fun r w'=>(∃X v,r = .returned (.tuple #[.pointer (some ⟨X,0,none⟩),fV (0,0,0)])/\w'.cell? ⟨X,6,none⟩=some v/\w'.ownsRow w.heap.size 212 4 v (Jq p).length (X7 (Jq p)))/\Below w.heap.size w w':=by
 refine(Jla p a w hg hp aw n1 n2 n3 n4 hS).mono fun r w' h=>?_;unfold Jkv at h;rw [if_neg hb] at h;exact h
theorem Je5 (p:Pr):((Kf p).2≠(0,0,0)/\(Kf p).1 = [])\/(Ks p=(0,0,0)/\¬16<(Jq p).length/\Kf p=(Jq p,(0,0,0))):=by
 unfold Kf
 split
 ·split
  ·exact .inl ⟨by simp,rfl⟩
  ·rename_i h1 h2;exact .inr ⟨h1,h2,rfl⟩
 ·rename_i h;exact .inl ⟨h,rfl⟩
theorem Jf8 (p:Pr) (a:PrA) (w:World) (hg:Ql w) (hp:Kr w p a) (aw:Ke5 p) (n1:p.ins.length<=1000000) (n2:p.outs.length<=1000000) (n3:p.locals.length<=1000000) (n4:p.eqs.length<=1000000) :
  Calls Tryz.prog 100 #[prV p a] w fun r w'=>(∃v,r = .returned (.tuple #[v,fV (Kf p).2])/\w'.ownsRow w.heap.size 212 4 v (Kf p).1.length (X7 (Kf p).1))/\Below w.heap.size w w':=by
 rcases Je5 p with ⟨h1,h2⟩|⟨h1,h2,h3⟩
 ·refine(Jsx p a w _ fun W hb=>Jyg p a W (hg.later hb) (hp.later hb) aw n1 n2 n3 n4 h1).mono ?_;rintro r w' ⟨rfl,hb⟩;rw [h2];exact⟨⟨_,rfl,World.ownsRow_nil _ _ _ _⟩,hb⟩
 ·rw [h3];exact Jrx p a w fun W hb=>Jwb p a W (hg.later hb) (hp.later hb) aw n1 n2 n3 n4 h1 h2
theorem Jyk:(Tryz.prog.info? 21).map (fun i=>(i.zero,i.size,i.bytes))=some (some (.int .i32 0),1,4):=by kernel_rfl
theorem Jqm (p:Pr) (a:PrA) (w:World) (hg:Ql w) (hp:Kr w p a) (aw:Ke5 p) (n1:p.ins.length<=1000000) (n2:p.outs.length<=1000000) (n3:p.locals.length<=1000000) (n4:p.eqs.length<=1000000) :
  Calls Tryz.prog 73 #[prV p a] w fun r w'=>(∃v,r = .returned (.tuple #[v,fV (Kf p).2])/\w'.ownsRow w.heap.size 21 1 v (Kf p).1.length ((Kf p).1.map (fun c=> .int .i32 c.first)))/\Below w.heap.size w w':=by
 have ah:=fun W h=>Jf8 p a W (hg.later h) (hp.later h) aw n1 n2 n3 n4
 have hl:(Kf p).1.length<=16:=by
  rcases Je5 p with ⟨h1,h2⟩|⟨h1,h2,h3⟩
  ·rw [h2];simp
  ·rw [h3];dsimp only;omega
 obtain⟨A1,c1,A2,c2,A3,c3,A4,c4⟩:=a;generalize (Kf p).1=cl at *;generalize (Kf p).2=cf at *;obtain⟨k1,k2,k3⟩:=cf;unfold prV fV at *;dsimp only at *;clear hg hp aw
 go_enter Tryz.func73,Tryz.ntmps73
 go_wp2_with (first|(go_at_call 100;refine(ah _ Jb).mono ?_;rintro r wa ⟨⟨v,rfl,ae⟩,aA⟩;obtain⟨Ac,cc,rfl,oS,nx⟩:=Jv ae;have aW:=Jg aA;have bS:=Jf aA;have cN:w.heap.size+2<=wa.heap.size:=(by have:=aA.size;simpa using this);have dG:w.heap.size<wa.heap.size:=(by omega);have aX:w.heap.size+1<wa.heap.size:=(by omega)))
 refine Jo fun W0 ag=>?_;have ax:Below w.heap.size w W0:=by rw [ag];exact Jb
 have aQ:Below wa.heap.size wa W0:=by rw [ag];exact Jb
 have bD:w.heap.size+3<=W0.heap.size:=by rw [ag];simp;omega
 unfold maxLen at nx
 have lO:Jbh W0 cl Ac cc:=by
  obtain⟨A',cap',hv,aY⟩:=Jbh.of_own (Jy ae aQ);injection hv with e1 e2 e3;subst e1 e3;exact aY
 have g0:W0.cell? ⟨w.heap.size+1,0,none⟩=some (.int .i64 0):=Ja aQ (by rw [aW _ _ (by simp)];go_simp);have g1:W0.cell? ⟨w.heap.size+1,1,none⟩=some (.int .i64 0):=Ja aQ (by rw [aW _ _ (by simp)];go_simp);have g2:W0.cell? ⟨w.heap.size+1,2,none⟩=some (.int .i64 0):=Ja aQ (by rw [aW _ _ (by simp)];go_simp);have f0:W0.frozen? ⟨w.heap.size+1,0,none⟩=false:=(Jf aQ _ _ aX).trans ((bS _ _ (by simp)).trans (by go_simp));have f1:W0.frozen? ⟨w.heap.size+1,1,none⟩=false:=(Jf aQ _ _ aX).trans ((bS _ _ (by simp)).trans (by go_simp));have f2:W0.frozen? ⟨w.heap.size+1,2,none⟩=false:=(Jf aQ _ _ aX).trans ((bS _ _ (by simp)).trans (by go_simp));have e0:W0.cell? ⟨wa.heap.size,0,none⟩=some (.int .i64 k1):=by rw [ag];go_simp
 have e1:W0.cell? ⟨wa.heap.size,1,none⟩=some (.int .i64 k2):=by rw [ag];go_simp
 have e2:W0.cell? ⟨wa.heap.size,2,none⟩=some (.int .i64 k3):=by rw [ag];go_simp
 have uX:wa.heap.size<W0.heap.size:=by rw [ag];simp
 have uQ:=Jyk;clear ag aW bS aA aQ ae ah
 go_loopw [6,16] (fun v i wr=>∃(k:Nat),k<=cl.length/\i = .int .i64 k/\Hid (wr.ownsRow W0.heap.size 21 1 v k ((cl.take k).map (fun c=> .int .i32 c.first)))/\Below W0.heap.size W0 wr) (fun _ i _=>cl.length-(intOf i).toNat)
 case atStart=>exact⟨0,Nat.zero_le _,rfl,Lib.hid (World.ownsRow_nil _ _ _ _),Below.refl _ _⟩
 case round=>
  obtain⟨k,hk,rfl,ae,ab⟩:=hrel;have bu:=ab.size
  by_cases am:k<cl.length
  ·have hx:cl[k]?=some cl[k]:=List.getElem?_eq_getElem am;have aP:cl.take (k+1)=cl.take k ++ [cl[k]]:=by rw [List.take_succ_eq_append_getElem am]
   generalize cl[k]=x at hx aP;obtain⟨b,off,rfl,cB⟩:=(lO.later ab).2.2.2 (by omega);have aY:=Jdh cl k x hx;have d0:wr.cell? ⟨b,off+k * 4,none⟩=some (.string x.name):=cB _ _ aY.1;have d1:wr.cell? ⟨b,off+k * 4+1,none⟩=some (.int .i64 x.ck):=cB _ _ aY.2.1;have d2:wr.cell? ⟨b,off+k * 4+2,none⟩=some (.string x.cn):=cB _ _ aY.2.2.1;have d3:wr.cell? ⟨b,off+k * 4+3,none⟩=some (.int .i32 x.first):=cB _ _ aY.2.2.2;have eZ:=Lib.hid aP;clear hx aP cB aY
   go_wp2_with (at_builtin;go_loud (refine Kap rfl (.tmp 20) (.tmp 23) 26 rfl W0.heap.size 21 _ 1 4 Tryz.underlying26 uQ rfl (by omega) _ k _ _ 1 [.int .i32 x.first] rfl (Js (Js ae.out)) rfl rfl (fun j u hj=>by rw [Qo (by simp)];simpa using hj) (by simp [Value.oneCell']) (by omega) (by omega) (by simp;omega) ?_;intro v2 w2 ao aq;have sK:=Lib.hid ao;clear ao))
   go_roundw
   case rel=>exact⟨k+1,by omega,by go_num,Lib.hid (by rw [eZ.out,List.map_append];exact sK.out),Jb⟩
   case measure=>simp [intOf];omega
  ·obtain rfl:k=cl.length:=by omega
   have ae:=ae.out;rw [List.take_length] at ae;obtain⟨Ae,ce,rfl,zY,rO⟩:=Jv ae;have g0':=Ja ab g0;have g1':=Ja ab g1;have g2':=Ja ab g2;have e0':=Ja ab e0;have e1':=Ja ab e1;have e2':=Ja ab e2;have f0':=(Jf ab _ 0 (by omega)).trans f0;have f1':=(Jf ab _ 1 (by omega)).trans f1;have f2':=(Jf ab _ 2 (by omega)).trans f2;have lw:∀b,(Value.slice Ae cl.length ce).ownBlock=some b->b≠w.heap.size+1:=fun b hb he=>by have:=(ae.lt b hb).1;omega
   have HOW:=Lib.hid (K8 ae (B':=w.heap.size) (by omega));have aC:Below w.heap.size w wr:=Jd ax ab;clear ae
   go_wp2_with fail
   go_region
   all_goals
    go_wp2_with fail
    refine bodyPost_ret (v:= .tuple #[.slice Ae cl.length ce,.agg #[.int .i64 k1,.int .i64 k2,.int .i64 k3]]) (by simp [results,Tryz.results73,go_sem, *]) rfl ?_;refine⟨⟨_,rfl,Kn (Kn (Kn HOW.out lw 0 _) lw 1 _) lw 2 _⟩,?_⟩
    (repeat refine Jh ?_)
    exact Km
theorem Jcm (op n:Int) (w:World):Calls Tryz.prog 103 #[.int .i64 op,.int .i32 n] w fun r w'=>(∃g,r = .returned (.slice (some ⟨g,0,none⟩) 1 1)/\J3 w' [(op,n)] (some ⟨g,0,none⟩) 1)/\Below w.heap.size w w':=by
 refine(Jak op n w).mono ?_;rintro r w' ⟨⟨rfl,ae⟩,hb⟩;exact⟨⟨_,rfl,J3.one ae⟩,hb⟩
theorem Jl7 (l1 l2:List (Int×Int)) (A1:Option Addr) (c1:Nat) (A2:Option Addr) (c2:Nat) (w:World) (t:TypeId) (h1:J3 w l1 A1 c1) (h2:J3 w l2 A2 c2) (hl:l1.length+l2.length<=1000000) :
  Calls Tryz.prog 102 #[.slice (some ⟨w.heap.size,0,none⟩) 2 2] (w.alloc (.cells #[.slice A1 l1.length c1,.slice A2 l2.length c2] t)) (Jci w (l1 ++ l2)):=by
 have h:=Jc0 [⟨l1,A1,c1⟩,⟨l2,A2,c2⟩] (some ⟨w.heap.size,0,none⟩) 2 (w.alloc (.cells #[.slice A1 l1.length c1,.slice A2 l2.length c2] t))
  (Jan rfl fun x hx=>by
   simp only [List.mem_cons,List.not_mem_nil,or_false] at hx
   rcases hx with rfl|rfl
   ·exact h1
   ·exact h2)
  (by simp [Qu];omega) (by simp)
 rw [show Qu [⟨l1,A1,c1⟩,⟨l2,A2,c2⟩]=l1 ++ l2 by simp [Qu]] at h;exact h.mono fun r w' hc=>hc.at.less (Jc (Below.refl _ _) _)
theorem Jxf (l1 l2 l3:List (Int×Int)) (A1:Option Addr) (c1:Nat) (A2:Option Addr) (c2:Nat) (A3:Option Addr) (c3:Nat) (w:World) (t:TypeId) (h1:J3 w l1 A1 c1) (h2:J3 w l2 A2 c2) (h3:J3 w l3 A3 c3) (hl:l1.length+l2.length+l3.length<=1000000) :
  Calls Tryz.prog 102 #[.slice (some ⟨w.heap.size,0,none⟩) 3 3] (w.alloc (.cells #[.slice A1 l1.length c1,.slice A2 l2.length c2,.slice A3 l3.length c3] t)) (Jci w (l1 ++ l2 ++ l3)):=by
 have h:=Jc0 [⟨l1,A1,c1⟩,⟨l2,A2,c2⟩,⟨l3,A3,c3⟩] (some ⟨w.heap.size,0,none⟩) 3 (w.alloc (.cells #[.slice A1 l1.length c1,.slice A2 l2.length c2,.slice A3 l3.length c3] t))
  (Jan rfl fun x hx=>by
   simp only [List.mem_cons,List.not_mem_nil,or_false] at hx
   rcases hx with rfl|rfl|rfl
   ·exact h1
   ·exact h2
   ·exact h3)
  (by simp [Qu];omega) (by simp)
 rw [show Qu [⟨l1,A1,c1⟩,⟨l2,A2,c2⟩,⟨l3,A3,c3⟩]=l1 ++ l2 ++ l3 by simp [Qu]] at h;exact h.mono fun r w' hc=>hc.at.less (Jc (Below.refl _ _) _)
def Jme:Value:= .agg #[.int .i64 0,.int .i64 0,.int .i64 0,.int .i64 0,.int .i64 0]
theorem Jrb (p:Pr) (a:PrA) (w:World) (hg:Ql w) (hp:Kr w p a) (aw:Ke5 p) (n1:p.ins.length<=1000000) (n2:p.outs.length<=1000000) (n3:p.locals.length<=1000000) (n4:p.eqs.length<=1000000) (hf:(Kf p).2≠(0,0,0)) :
  Calls Tryz.prog 72 #[prV p a] w fun r w'=>r = .returned (.tuple #[.slice none 0 0,Jme,fV (Kf p).2])/\Below w.heap.size w w':=by
 have ah:=fun W h=>Jf8 p a W (hg.later h) (hp.later h) aw n1 n2 n3 n4
 have ss:(Kf p).1 = []:=by
  rcases Je5 p with ⟨h1,h2⟩|⟨h1,h2,h3⟩
  ·exact h2
  ·rw [h3] at hf;exact absurd rfl hf
 have aS:((Kf p).2.1 == 0 && (Kf p).2.2.1 == 0 && (Kf p).2.2.2 == 0)=false:=by
  rw [Bool.eq_false_iff];intro h;simp only [Bool.and_eq_true,beq_iff_eq] at h;exact hf (Prod.ext h.1.1 (Prod.ext h.1.2 h.2))
 have dp:∀w,(Op.equalIn 10000 32 (.agg #[.int .i64 (Kf p).2.1,.int .i64 (Kf p).2.2.1,.int .i64 (Kf p).2.2.2]) (.agg #[.int .i64 0,.int .i64 0,.int .i64 0])).run Tryz.prog w = .ok false w:=fun w=>by rw [Zr,aS]
 have fM:Tryz.prog.eqGuardType Tryz.prog.depth 32=false:=by kernel_rfl
 clear hf aS;rw [ss] at ah;obtain⟨A1,c1,A2,c2,A3,c3,A4,c4⟩:=a;unfold prV fV at *;dsimp only at *;generalize (Kf p).2.1=k1 at *;generalize (Kf p).2.2.1=k2 at *;generalize (Kf p).2.2.2=k3 at *;clear hg hp aw;unfold Jme
 go_enter Tryz.func72,Tryz.ntmps72
 go_wp2_with (first|(go_at_call 100;refine(ah _ Jb).mono ?_;rintro r wa ⟨⟨v,rfl,ae⟩,aA⟩;obtain⟨Ac,cc,rfl,oS,nx⟩:=Jv ae;have aW:=Jg aA;have bS:=Jf aA;have cN:w.heap.size+3<=wa.heap.size:=(by have:=aA.size;simpa using this);have dG:w.heap.size<wa.heap.size:=(by omega);have aX:w.heap.size+1<wa.heap.size:=(by omega);have eJ:w.heap.size+1+1<wa.heap.size:=(by omega)))
 refine Jo fun W0 ag=>?_;have ax:Below w.heap.size w W0:=by rw [ag];exact Jb
 have aQ:Below wa.heap.size wa W0:=by rw [ag];exact Jb
 have g0:W0.cell? ⟨w.heap.size+1,0,none⟩=some (.int .i64 0):=Ja aQ (by rw [aW _ _ (by simp)];go_simp);have f0:W0.frozen? ⟨w.heap.size+1,0,none⟩=false:=(Jf aQ _ _ aX).trans ((bS _ _ (by simp)).trans (by go_simp));have g1:W0.cell? ⟨w.heap.size+1,1,none⟩=some (.int .i64 0):=Ja aQ (by rw [aW _ _ (by simp)];go_simp);have f1:W0.frozen? ⟨w.heap.size+1,1,none⟩=false:=(Jf aQ _ _ aX).trans ((bS _ _ (by simp)).trans (by go_simp));have g2:W0.cell? ⟨w.heap.size+1,2,none⟩=some (.int .i64 0):=Ja aQ (by rw [aW _ _ (by simp)];go_simp);have f2:W0.frozen? ⟨w.heap.size+1,2,none⟩=false:=(Jf aQ _ _ aX).trans ((bS _ _ (by simp)).trans (by go_simp));have g3:W0.cell? ⟨w.heap.size+1,3,none⟩=some (.int .i64 0):=Ja aQ (by rw [aW _ _ (by simp)];go_simp);have f3:W0.frozen? ⟨w.heap.size+1,3,none⟩=false:=(Jf aQ _ _ aX).trans ((bS _ _ (by simp)).trans (by go_simp));have g4:W0.cell? ⟨w.heap.size+1,4,none⟩=some (.int .i64 0):=Ja aQ (by rw [aW _ _ (by simp)];go_simp);have f4:W0.frozen? ⟨w.heap.size+1,4,none⟩=false:=(Jf aQ _ _ aX).trans ((bS _ _ (by simp)).trans (by go_simp));have d0:W0.cell? ⟨w.heap.size+1+1,0,none⟩=some (.int .i64 0):=Ja aQ (by rw [aW _ _ (by simp)];go_simp);have e0:W0.frozen? ⟨w.heap.size+1+1,0,none⟩=false:=(Jf aQ _ _ eJ).trans ((bS _ _ (by simp)).trans (by go_simp));have q0:W0.cell? ⟨wa.heap.size,0,none⟩=some (.int .i64 k1):=by rw [ag];go_simp
 have d1:W0.cell? ⟨w.heap.size+1+1,1,none⟩=some (.int .i64 0):=Ja aQ (by rw [aW _ _ (by simp)];go_simp);have e1:W0.frozen? ⟨w.heap.size+1+1,1,none⟩=false:=(Jf aQ _ _ eJ).trans ((bS _ _ (by simp)).trans (by go_simp));have q1:W0.cell? ⟨wa.heap.size,1,none⟩=some (.int .i64 k2):=by rw [ag];go_simp
 have d2:W0.cell? ⟨w.heap.size+1+1,2,none⟩=some (.int .i64 0):=Ja aQ (by rw [aW _ _ (by simp)];go_simp);have e2:W0.frozen? ⟨w.heap.size+1+1,2,none⟩=false:=(Jf aQ _ _ eJ).trans ((bS _ _ (by simp)).trans (by go_simp));have q2:W0.cell? ⟨wa.heap.size,2,none⟩=some (.int .i64 k3):=by rw [ag];go_simp
 clear ag aW bS aA aQ ae ah oS nx
 have bW:∀(w':World) (b o:Nat) (u:Value),b≠wa.heap.size->w'.cell? ⟨wa.heap.size,0,none⟩=some (.int .i64 k1)/\w'.cell? ⟨wa.heap.size,1,none⟩=some (.int .i64 k2)/\w'.cell? ⟨wa.heap.size,2,none⟩=some (.int .i64 k3)->(w'.setCell ⟨b,o,none⟩ u).cell? ⟨wa.heap.size,0,none⟩=some (.int .i64 k1)/\(w'.setCell ⟨b,o,none⟩ u).cell? ⟨wa.heap.size,1,none⟩=some (.int .i64 k2)/\(w'.setCell ⟨b,o,none⟩ u).cell? ⟨wa.heap.size,2,none⟩=some (.int .i64 k3):=fun w' b o u hb ⟨h1,h2,h3⟩=>
  ⟨(World.cell?_setCell_other _ _ _ _ (by intro he;injection he with e1 e2;omega)).trans h1,(World.cell?_setCell_other _ _ _ _ (by intro he;injection he with e1 e2;omega)).trans h2,(World.cell?_setCell_other _ _ _ _ (by intro he;injection he with e1 e2;omega)).trans h3⟩
 have gQ:=Lib.hid bW;have oT:∀w':World,w'.cell? ⟨wa.heap.size,0,none⟩=some (.int .i64 k1)/\w'.cell? ⟨wa.heap.size,1,none⟩=some (.int .i64 k2)/\w'.cell? ⟨wa.heap.size,2,none⟩=some (.int .i64 k3)->w'.drew.cell? ⟨wa.heap.size,0,none⟩=some (.int .i64 k1)/\w'.drew.cell? ⟨wa.heap.size,1,none⟩=some (.int .i64 k2)/\w'.drew.cell? ⟨wa.heap.size,2,none⟩=some (.int .i64 k3):=fun _ h=>h;have HD:=Lib.hid oT;clear bW oT;have ar:W0.drew.cell? ⟨wa.heap.size,0,none⟩=some (.int .i64 k1)/\W0.drew.cell? ⟨wa.heap.size,1,none⟩=some (.int .i64 k2)/\W0.drew.cell? ⟨wa.heap.size,2,none⟩=some (.int .i64 k3):=⟨q0,q1,q2⟩;refine Kd (fun w'=>w'.cell? ⟨wa.heap.size,0,none⟩=some (.int .i64 k1)/\w'.cell? ⟨wa.heap.size,1,none⟩=some (.int .i64 k2)/\w'.cell? ⟨wa.heap.size,2,none⟩=some (.int .i64 k3)) 4 1 (by kernel_rfl) (by rfl) ?_;simp only [List.size_toArray,List.length_cons,List.length_nil,Nat.zero_add,Nat.reduceAdd];refine Ji 0 ar ?_;refine Ji 1 ar ?_;refine Ji 2 ar ?_;refine Kb 3 ?_;refine Jj fun K hK=>?_;go_simp;have oy:=HD.out _ (gQ.out _ (w.heap.size+1) 4 (.int .i64 0) (by omega) (gQ.out _ (w.heap.size+1) 3 (.int .i64 0) (by omega) (gQ.out _ (w.heap.size+1) 2 (.int .i64 0) (by omega) (gQ.out _ (w.heap.size+1) 1 (.int .i64 0) (by omega) (gQ.out W0 (w.heap.size+1) 0 (.int .i64 0) (by omega) ⟨q0,q1,q2⟩)))));refine hK _ _ ⟨oy,Kh (by kernel_rfl) ?_⟩;clear hK K
 try simp only [Act.put,sa1,sa2,sa3]
 refine Jgr fun W1 bt=>?_;have ac:Below w.heap.size w W1:=by rw [bt];exact Jh (Jdj _ _ _ _ _ ax (by omega))
 obtain⟨r0,r1,r2,r3,r4⟩:=Jsy (W:=W0) (.int .i64 0) (.int .i64 0) (.int .i64 0) (.int .i64 0) (.int .i64 0) g0 g1 g2 g3 g4;have R:∀b o,W1.cell? ⟨b,o,none⟩=(((((W0.setCell ⟨w.heap.size+1,0,none⟩ (.int .i64 0)).setCell ⟨w.heap.size+1,1,none⟩ (.int .i64 0)).setCell ⟨w.heap.size+1,2,none⟩ (.int .i64 0)).setCell ⟨w.heap.size+1,3,none⟩ (.int .i64 0)).setCell ⟨w.heap.size+1,4,none⟩ (.int .i64 0)).cell? ⟨b,o,none⟩:=fun b o=>by rw [bt,Xi]
 have RF:∀p,W1.frozen? p=W0.frozen? p:=fun p=>by
  rw [bt,Jdn];exact Ji7 (W:=W0) (b:=w.heap.size+1) _ _ _ _ _ p
 have s0:=(R _ _).trans r0;have s1:=(R _ _).trans r1;have s2:=(R _ _).trans r2;have s3:=(R _ _).trans r3;have s4:=(R _ _).trans r4;have t0:=((R _ _).trans (Q8 _ _ _ _ _ (by omega))).trans d0;have t1:=((R _ _).trans (Q8 _ _ _ _ _ (by omega))).trans d1;have t2:=((R _ _).trans (Q8 _ _ _ _ _ (by omega))).trans d2;have z0:=(RF _).trans e0;have z1:=(RF _).trans e1;have z2:=(RF _).trans e2;clear bt R RF r0 r1 r2 r3 r4 oy ar q0 q1 q2 g0 g1 g2 g3 g4 f0 f1 f2 f3 f4 d0 d1 d2 e0 e1 e2 gQ HD;refine Qx 4 ?_;refine Jj fun K hK=>?_;go_simp;refine hK _ _ ?_;clear hK K
 try simp only [Act.put,sa1,sa2,sa3]
 refine Ki (by kernel_rfl) ?_;refine Zc fun W2 gi=>?_;obtain⟨r0,r1,r2⟩:=Jp5 (W:=W1) (.int .i64 k1) (.int .i64 k2) (.int .i64 k3) t0 t1 t2;have R:∀b o,W2.cell? ⟨b,o,none⟩=(((W1.setCell ⟨w.heap.size+1+1,0,none⟩ (.int .i64 k1)).setCell ⟨w.heap.size+1+1,1,none⟩ (.int .i64 k2)).setCell ⟨w.heap.size+1+1,2,none⟩ (.int .i64 k3)).cell? ⟨b,o,none⟩:=fun b o=>by rw [gi]
 have aq:Below w.heap.size w W2:=by rw [gi];exact Qq _ _ _ ac (by omega)
 have x0:=(R _ _).trans r0;have x1:=(R _ _).trans r1;have x2:=(R _ _).trans r2;have y0:=((R _ _).trans (Qy _ _ _ (by omega))).trans s0;have y1:=((R _ _).trans (Qy _ _ _ (by omega))).trans s1;have y2:=((R _ _).trans (Qy _ _ _ (by omega))).trans s2;have y3:=((R _ _).trans (Qy _ _ _ (by omega))).trans s3;have y4:=((R _ _).trans (Qy _ _ _ (by omega))).trans s4;clear gi R r0 r1 r2 s0 s1 s2 s3 s4 t0 t1 t2 z0 z1 z2
 go_wp2_with fail
 exact bodyPost_ret (v:= .tuple #[.slice none 0 0,.agg #[.int .i64 0,.int .i64 0,.int .i64 0,.int .i64 0,.int .i64 0],.agg #[.int .i64 k1,.int .i64 k2,.int .i64 k3]]) (by simp [results,Tryz.results72,go_sem, *]) rfl ⟨rfl,aq⟩
end Go.Proofs.YtdgjplldlfeolaaGreatDoor
