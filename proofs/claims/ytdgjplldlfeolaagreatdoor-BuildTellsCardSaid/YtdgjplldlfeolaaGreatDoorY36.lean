/- Lemmas. -/
import Derived.Test.YtdgjplldlfeolaaGreatDoorMac
import Derived.Test.YtdgjplldlfeolaaGreatDoorY33
import Derived.BigRegion
import Derived.Test.YtdgjplldlfeolaaGreatDoorY31
import Derived.Test.YtdgjplldlfeolaaGreatDoorY26
import Derived.Test.YtdgjplldlfeolaaGreatDoorY09
import Derived.Test.YtdgjplldlfeolaaGreatDoorY22
import Derived.Test.YtdgjplldlfeolaaGreatDoorY12
import Derived.Test.YtdgjplldlfeolaaGreatDoorY17
import Derived.Test.YtdgjplldlfeolaaGreatDoorY34
import Derived.Test.YtdgjplldlfeolaaGreatDoorY01
import Derived.Test.YtdgjplldlfeolaaGreatDoorY16
import Derived.Test.YtdgjplldlfeolaaGreatDoorY10
import Derived.Deep.CutRange
set_option linter.unusedVariables false
set_option linter.unusedSimpArgs false
set_option maxRecDepth 100000
set_option maxHeartbeats 64000000
namespace Go.Proofs.YtdgjplldlfeolaaGreatDoor
open Go.RowKit Go.Sort Go.Maps Go.ChangeMaps Go.WideMaps
theorem Jqc {p:Pr} (h:Ks p≠(0,0,0)):(Kf p)=([],Ks p):=by unfold Kf;rw [if_neg h]
theorem Jbh.of_own {w:World} {base:Nat} {e:TypeId} {l:List Ce} {v:Value} (h:w.ownsRow base e 4 v l.length (X7 l)):∃A cap,v = .slice A l.length cap/\Jbh w l A cap:=by
 obtain⟨A,cap,rfl,h1,h2⟩:=Jv h;refine⟨A,cap,rfl,h1,h2,Jph l,fun hm=>?_⟩;exact Ubh
theorem Jsx (p:Pr) (a:PrA) (w:World) (f:Int×Int×Int) (qe:∀W,Below w.heap.size w W->Calls Tryz.prog 117 #[prV p a] W fun r w'=>r = .returned (.tuple #[.pointer none,fV f])/\Below W.heap.size W w') :
  Calls Tryz.prog 100 #[prV p a] w fun r w'=>r = .returned (.tuple #[.slice none 0 0,fV f])/\Below w.heap.size w w':=by
 obtain⟨A1,c1,A2,c2,A3,c3,A4,c4⟩:=a;obtain⟨k1,k2,k3⟩:=f;unfold prV fV at *;dsimp only at *
 go_enter Tryz.func100,Tryz.ntmps100
 go_wp2_with (first|(go_at_call 117;refine(qe _ Jb).mono ?_;rintro r wa ⟨rfl,aA⟩;have aW:=Jg aA;have bS:=Jf aA;have cN:w.heap.size+2<=wa.heap.size:=U3;have dG:=lt0 w wa;have aX:=ltA w 1 wa))
 go_region
 all_goals
  go_wp2_with fail
  refine Nv (v:= .tuple #[.slice none 0 0,.agg #[.int .i64 k1,.int .i64 k2,.int .i64 k3]]) (by simp [results,Tryz.results100,go_sem, *]) rfl ⟨rfl,?_⟩
  (repeat refine Jh ?_)
  exact Km
theorem Jrx (p:Pr) (a:PrA) (w:World) (qe:∀W,Below w.heap.size w W->Calls Tryz.prog 117 #[prV p a] W fun r w'=>(∃X v,r = .returned (.tuple #[.pointer (some ⟨X,0,none⟩),fV (0,0,0)])/\w'.cell? ⟨X,6,none⟩=some v/\w'.ownsRow W.heap.size 212 4 v (Jq p).length (X7 (Jq p)))/\Below W.heap.size W w') :
  Calls Tryz.prog 100 #[prV p a] w fun r w'=>(∃v,r = .returned (.tuple #[v,fV (0,0,0)])/\w'.ownsRow w.heap.size 212 4 v (Jq p).length (X7 (Jq p)))/\Below w.heap.size w w':=by
 obtain⟨A1,c1,A2,c2,A3,c3,A4,c4⟩:=a;unfold prV fV at *;dsimp only at *
 go_enter Tryz.func100,Tryz.ntmps100
 go_wp2_with (first|(go_at_call 117;refine(qe _ Jb).mono ?_;rintro r wa ⟨⟨X,v,rfl,rJ,ae⟩,aA⟩;obtain⟨Ac,cc,rfl,oS,nx⟩:=Jv ae;have pO:=Nu rJ;have aW:=Jg aA;have bS:=Jf aA;have cN:w.heap.size+2<=wa.heap.size:=U3;have dG:=lt0 w wa;have aX:=ltA w 1 wa))
 refine Jo fun W0 ag=>?_;have ax:=Nd w W0 Uz;have aQ:=Nd wa W0 Uz;have x6:=Ja aQ rJ;have g0:=Na W0 (w.heap.size+1) 0 0 (Ja aQ Ub9);have g1:=Na W0 (w.heap.size+1) 1 0 (Ja aQ Ub9);have g2:=Na W0 (w.heap.size+1) 2 0 (Ja aQ Ub9);have f0:=Nc W0 (w.heap.size+1) 0 ((Jf aQ _ _ aX).trans ((bS _ _ Uh).trans Uc));have f1:=Nc W0 (w.heap.size+1) 1 ((Jf aQ _ _ aX).trans ((bS _ _ Uh).trans Uc));have f2:=Nc W0 (w.heap.size+1) 2 ((Jf aQ _ _ aX).trans ((bS _ _ Uh).trans Uc));have e0:=Na W0 wa.heap.size 0 0 Uf;have e1:=Na W0 wa.heap.size 1 0 Uf;have e2:=Na W0 wa.heap.size 2 0 Uf;have lw:∀b,(Value.slice Ac (Jq p).length cc).ownBlock=some b->b≠w.heap.size+1:=fun b hb he=>by have:=(ae.lt b hb).1;simp at this;omega
 have HOW:=Nf (Jy (K8 ae (B':=w.heap.size) Ui) aQ);clear ag aW bS aA aQ rJ ae
 go_region
 all_goals
  go_wp2_with fail
  refine Nv (v:= .tuple #[.slice Ac (Jq p).length cc,.agg #[.int .i64 0,.int .i64 0,.int .i64 0]]) (by simp [results,Tryz.results100,go_sem, *]) rfl ?_;refine⟨⟨_,rfl,Kn (Kn (Kn HOW.out lw 0 _) lw 1 _) lw 2 _⟩,?_⟩
  (repeat refine Jh ?_)
  exact Km
theorem Jyg (p:Pr) (a:PrA) (w:World) (hg:Ql w) (hp:Kr w p a) (aw:Ke5 p) (n1:p.ins.length<=1000000) (n2:p.outs.length<=1000000) (n3:p.locals.length<=1000000) (n4:p.eqs.length<=1000000) (hf:(Kf p).2≠(0,0,0)) :
  Calls Tryz.prog 117 #[prV p a] w fun r w'=>r = .returned (.tuple #[.pointer none,fV (Kf p).2])/\Below w.heap.size w w':=by
 by_cases hS:Ks p=(0,0,0)
 ·have dP:16<(Jq p).length:=by
   by_cases hb:16<(Jq p).length
   ·exact hb
   ·exact absurd (by unfold Kf;rw [if_pos hS,if_neg hb]) hf
  refine(Jla p a w hg hp aw n1 n2 n3 n4 hS).mono fun r w' h=>?_;unfold Jkv at h;rw [if_pos dP] at h;rw [show(Kf p).2=(4,0,3) by unfold Kf;rw [if_pos hS,if_pos dP]];exact h
 ·rw [Jqc hS];exact Jta p a w hg hp aw n1 n2 n3 n4 hS
theorem Jwb (p:Pr) (a:PrA) (w:World) (hg:Ql w) (hp:Kr w p a) (aw:Ke5 p) (n1:p.ins.length<=1000000) (n2:p.outs.length<=1000000) (n3:p.locals.length<=1000000) (n4:p.eqs.length<=1000000) (hS:Ks p=(0,0,0)) (hb:¬16<(Jq p).length) :
  Calls Tryz.prog 117 #[prV p a] w fun r w'=>(∃X v,r = .returned (.tuple #[.pointer (some ⟨X,0,none⟩),fV (0,0,0)])/\w'.cell? ⟨X,6,none⟩=some v/\w'.ownsRow w.heap.size 212 4 v (Jq p).length (X7 (Jq p)))/\Below w.heap.size w w':=by
 refine(Jla p a w hg hp aw n1 n2 n3 n4 hS).mono fun r w' h=>?_;unfold Jkv at h;rw [if_neg hb] at h;exact h
theorem Je5 (p:Pr):((Kf p).2≠(0,0,0)/\(Kf p).1 = [])\/(Ks p=(0,0,0)/\¬16<(Jq p).length/\Kf p=(Jq p,(0,0,0))):=by
 unfold Kf
 split
 ·split
  ·exact .inl ⟨Uh,rfl⟩
  ·rename_i h1 h2;exact .inr ⟨h1,h2,rfl⟩
 ·rename_i h;exact .inl ⟨h,rfl⟩
theorem Jf8 (p:Pr) (a:PrA) (w:World) (hg:Ql w) (hp:Kr w p a) (aw:Ke5 p) (n1:p.ins.length<=1000000) (n2:p.outs.length<=1000000) (n3:p.locals.length<=1000000) (n4:p.eqs.length<=1000000) :
  Calls Tryz.prog 100 #[prV p a] w fun r w'=>(∃v,r = .returned (.tuple #[v,fV (Kf p).2])/\w'.ownsRow w.heap.size 212 4 v (Kf p).1.length (X7 (Kf p).1))/\Below w.heap.size w w':=by
 rcases Je5 p with ⟨h1,h2⟩|⟨h1,h2,h3⟩
 ·refine(Jsx p a w _ fun W hb=>Jyg p a W (hg.later hb) (hp.later hb) aw n1 n2 n3 n4 h1).mono ?_;rintro r w' ⟨rfl,hb⟩;rw [h2];exact⟨⟨_,rfl,Nw⟩,hb⟩
 ·rw [h3];exact Jrx p a w fun W hb=>Jwb p a W (hg.later hb) (hp.later hb) aw n1 n2 n3 n4 h1 h2
theorem Jyk:(Tryz.prog.info? 21).map (fun i=>(i.zero,i.size,i.bytes))=some (some (.int .i32 0),1,4):=Ue
theorem Jqm (p:Pr) (a:PrA) (w:World) (hg:Ql w) (hp:Kr w p a) (aw:Ke5 p) (n1:p.ins.length<=1000000) (n2:p.outs.length<=1000000) (n3:p.locals.length<=1000000) (n4:p.eqs.length<=1000000) :
  Calls Tryz.prog 73 #[prV p a] w fun r w'=>(∃v,r = .returned (.tuple #[v,fV (Kf p).2])/\w'.ownsRow w.heap.size 21 1 v (Kf p).1.length ((Kf p).1.map (fun c=> .int .i32 c.first)))/\Below w.heap.size w w':=by
 have ah:=fun W h=>Jf8 p a W (hg.later h) (hp.later h) aw n1 n2 n3 n4
 have hl:(Kf p).1.length<=16:=by
  rcases Je5 p with ⟨h1,h2⟩|⟨h1,h2,h3⟩
  ·rw [h2];simp
  ·rw [h3];dsimp only;omega
 obtain⟨A1,c1,A2,c2,A3,c3,A4,c4⟩:=a;generalize (Kf p).1=cl at *;generalize (Kf p).2=cf at *;obtain⟨k1,k2,k3⟩:=cf;unfold prV fV at *;dsimp only at *;clear hg hp aw
 go_enter Tryz.func73,Tryz.ntmps73
 go_wp2_with (first|(go_at_call 100;refine(ah _ Jb).mono ?_;rintro r wa ⟨⟨v,rfl,ae⟩,aA⟩;obtain⟨Ac,cc,rfl,oS,nx⟩:=Jv ae;have aW:=Jg aA;have bS:=Jf aA;have cN:w.heap.size+2<=wa.heap.size:=U3;have dG:=lt0 w wa;have aX:=ltA w 1 wa))
 refine Jo fun W0 ag=>?_;have ax:=Nd w W0 Uz;have aQ:=Nd wa W0 Uz;have bD:w.heap.size+3<=W0.heap.size:=by rw [ag];simp;omega
 unfold maxLen at nx
 have lO:Jbh W0 cl Ac cc:=by
  obtain⟨A',cap',hv,aY⟩:=Jbh.of_own (Jy ae aQ);injection hv with e1 e2 e3;subst e1 e3;exact aY
 have g0:=Na W0 (w.heap.size+1) 0 0 (Ja aQ Ub9);have g1:=Na W0 (w.heap.size+1) 1 0 (Ja aQ Ub9);have g2:=Na W0 (w.heap.size+1) 2 0 (Ja aQ Ub9);have f0:=Nc W0 (w.heap.size+1) 0 ((Jf aQ _ _ aX).trans ((bS _ _ Uh).trans Uc));have f1:=Nc W0 (w.heap.size+1) 1 ((Jf aQ _ _ aX).trans ((bS _ _ Uh).trans Uc));have f2:=Nc W0 (w.heap.size+1) 2 ((Jf aQ _ _ aX).trans ((bS _ _ Uh).trans Uc));have e0:=Na W0 wa.heap.size 0 k1 Uf;have e1:=Na W0 wa.heap.size 1 k2 Uf;have e2:=Na W0 wa.heap.size 2 k3 Uf;have uX:wa.heap.size<W0.heap.size:=Vu;have uQ:=Jyk;clear ag aW bS aA aQ ae ah
 go_loopw [6,16] (fun v i wr=>∃(k:Nat),k<=cl.length/\i = .int .i64 k/\Hid (wr.ownsRow W0.heap.size 21 1 v k ((cl.take k).map (fun c=> .int .i32 c.first)))/\Below W0.heap.size W0 wr) (fun _ i _=>cl.length-(intOf i).toNat)
 case atStart=>exact⟨0,Np,rfl,Nf (Nw),Nt⟩
 case round=>
  obtain⟨k,hk,rfl,ae,ab⟩:=hrel;have bu:=ab.size
  by_cases am:k<cl.length
  ·have hx:cl[k]?=some cl[k]:=Ng am;have aP:cl.take (k+1)=cl.take k ++ [cl[k]]:=U7;generalize cl[k]=x at hx aP;obtain⟨b,off,rfl,cB⟩:=(lO.later ab).2.2.2 Ua;have aY:=Jdh cl k x hx;have d0:=Nb wr b (off+k * 4) (.string x.name) (cB _ _ aY.1);have d1:=Na wr b (off+k * 4+1) x.ck (cB _ _ aY.2.1);have d2:=Nb wr b (off+k * 4+2) (.string x.cn) (cB _ _ aY.2.2.1);have d3:=Nb wr b (off+k * 4+3) (.int .i32 x.first) (cB _ _ aY.2.2.2);have eZ:=Nf aP;clear hx aP cB aY
   go_wp2_with (at_builtin;go_loud (refine Kap rfl (.tmp 20) (.tmp 23) 26 rfl W0.heap.size 21 _ 1 4 Tryz.underlying26 uQ rfl Ua _ k _ _ 1 [.int .i32 x.first] rfl (Js (Js ae.out)) rfl rfl (fun j u hj=>by rw [Qo Uh];simpa using hj) Vg Ua Ua Ui ?_;intro v2 w2 ao aq;have sK:=Nf ao;clear ao))
   go_roundw
   case rel=>exact⟨k+1,Ua,Uw,Nf (by rw [eZ.out,List.map_append];exact sK.out),Jb⟩
   case measure=>simp [intOf];omega
  ·obtain rfl:k=cl.length:=Ua;have ae:=ae.out;rw [List.take_length] at ae;obtain⟨Ae,ce,rfl,zY,rO⟩:=Jv ae;have g0':=Ja ab g0;have g1':=Ja ab g1;have g2':=Ja ab g2;have e0':=Ja ab e0;have e1':=Ja ab e1;have e2':=Ja ab e2;have f0':=(Jf ab _ 0 Ua).trans f0;have f1':=(Jf ab _ 1 Ua).trans f1;have f2':=(Jf ab _ 2 Ua).trans f2;have lw:∀b,(Value.slice Ae cl.length ce).ownBlock=some b->b≠w.heap.size+1:=fun b hb he=>Da;have HOW:=Nf (K8 ae (B':=w.heap.size) Ua);have aC:=Nd w wr (Jd ax ab);clear ae
   go_wp2_with fail
   go_region
   all_goals
    go_wp2_with fail
    refine Nv (v:= .tuple #[.slice Ae cl.length ce,.agg #[.int .i64 k1,.int .i64 k2,.int .i64 k3]]) (by simp [results,Tryz.results73,go_sem, *]) rfl ?_;refine⟨⟨_,rfl,Kn (Kn (Kn HOW.out lw 0 _) lw 1 _) lw 2 _⟩,?_⟩
    (repeat refine Jh ?_)
    exact Km
theorem Jcm (op n:Int) (w:World):Calls Tryz.prog 103 #[.int .i64 op,.int .i32 n] w fun r w'=>(∃g,r = .returned (.slice (some ⟨g,0,none⟩) 1 1)/\Kos w' [(op,n)] (some ⟨g,0,none⟩) 1)/\Below w.heap.size w w':=by
 refine(Jak op n w).mono ?_;rintro r w' ⟨⟨rfl,ae⟩,hb⟩;exact⟨⟨_,rfl,Kos.one ae⟩,hb⟩
theorem Jl7 (l1 l2:List (Int×Int)) (A1:Option Addr) (c1:Nat) (A2:Option Addr) (c2:Nat) (w:World) (t:TypeId) (h1:Kos w l1 A1 c1) (h2:Kos w l2 A2 c2) (hl:l1.length+l2.length<=1000000) :
  Calls Tryz.prog 102 #[.slice (some ⟨w.heap.size,0,none⟩) 2 2] (w.alloc (.cells #[.slice A1 l1.length c1,.slice A2 l2.length c2] t)) (Jci w (l1 ++ l2)):=by
 have h:=Jc0 [⟨l1,A1,c1⟩,⟨l2,A2,c2⟩] (some ⟨w.heap.size,0,none⟩) 2 (w.alloc (.cells #[.slice A1 l1.length c1,.slice A2 l2.length c2] t))
  (Jan rfl fun x hx=>by
   simp only [List.mem_cons,List.not_mem_nil,or_false] at hx
   rcases hx with rfl|rfl
   ·exact h1
   ·exact h2)
  Gh Uh
 rw [show Qu [⟨l1,A1,c1⟩,⟨l2,A2,c2⟩]=l1 ++ l2 by simp [Qu]] at h;exact h.mono fun r w' hc=>hc.at.less (Jc (Nt) _)
theorem Jxf (l1 l2 l3:List (Int×Int)) (A1:Option Addr) (c1:Nat) (A2:Option Addr) (c2:Nat) (A3:Option Addr) (c3:Nat) (w:World) (t:TypeId) (h1:Kos w l1 A1 c1) (h2:Kos w l2 A2 c2) (h3:Kos w l3 A3 c3) (hl:l1.length+l2.length+l3.length<=1000000) :
  Calls Tryz.prog 102 #[.slice (some ⟨w.heap.size,0,none⟩) 3 3] (w.alloc (.cells #[.slice A1 l1.length c1,.slice A2 l2.length c2,.slice A3 l3.length c3] t)) (Jci w (l1 ++ l2 ++ l3)):=by
 have h:=Jc0 [⟨l1,A1,c1⟩,⟨l2,A2,c2⟩,⟨l3,A3,c3⟩] (some ⟨w.heap.size,0,none⟩) 3 (w.alloc (.cells #[.slice A1 l1.length c1,.slice A2 l2.length c2,.slice A3 l3.length c3] t))
  (Jan rfl fun x hx=>by
   simp only [List.mem_cons,List.not_mem_nil,or_false] at hx
   rcases hx with rfl|rfl|rfl
   ·exact h1
   ·exact h2
   ·exact h3)
  Gh Uh
 rw [show Qu [⟨l1,A1,c1⟩,⟨l2,A2,c2⟩,⟨l3,A3,c3⟩]=l1 ++ l2 ++ l3 by simp [Qu]] at h;exact h.mono fun r w' hc=>hc.at.less (Jc (Nt) _)
def Jme:Value:= .agg #[.int .i64 0,.int .i64 0,.int .i64 0,.int .i64 0,.int .i64 0]
theorem Jrb (p:Pr) (a:PrA) (w:World) (hg:Ql w) (hp:Kr w p a) (aw:Ke5 p) (n1:p.ins.length<=1000000) (n2:p.outs.length<=1000000) (n3:p.locals.length<=1000000) (n4:p.eqs.length<=1000000) (hf:(Kf p).2≠(0,0,0)) :
  Calls Tryz.prog 72 #[prV p a] w fun r w'=>r = .returned (.tuple #[.slice none 0 0,Jme,fV (Kf p).2])/\Below w.heap.size w w':=by
 have ah:=fun W h=>Jf8 p a W (hg.later h) (hp.later h) aw n1 n2 n3 n4
 have ss:(Kf p).1 = []:=by
  rcases Je5 p with ⟨h1,h2⟩|⟨h1,h2,h3⟩
  ·exact h2
  ·rw [h3] at hf;exact absurd rfl hf
 have aS:((Kf p).2.1 == 0 && (Kf p).2.2.1 == 0 && (Kf p).2.2.2 == 0)=false:=by
  exact Ua0
 have dp:∀w,(Op.equalIn 10000 32 (.agg #[.int .i64 (Kf p).2.1,.int .i64 (Kf p).2.2.1,.int .i64 (Kf p).2.2.2]) (.agg #[.int .i64 0,.int .i64 0,.int .i64 0])).run Tryz.prog w = .ok false w:=fun w=>by rw [Zr,aS]
 have fM:Tryz.prog.eqGuardType Tryz.prog.depth 32=false:=Ue;clear hf aS;rw [ss] at ah;obtain⟨A1,c1,A2,c2,A3,c3,A4,c4⟩:=a;unfold prV fV at *;dsimp only at *;generalize (Kf p).2.1=k1 at *;generalize (Kf p).2.2.1=k2 at *;generalize (Kf p).2.2.2=k3 at *;clear hg hp aw;unfold Jme
 go_enter Tryz.func72,Tryz.ntmps72
 go_wp2_with (first|(go_at_call 100;refine(ah _ Jb).mono ?_;rintro r wa ⟨⟨v,rfl,ae⟩,aA⟩;obtain⟨Ac,cc,rfl,oS,nx⟩:=Jv ae;have aW:=Jg aA;have bS:=Jf aA;have cN:w.heap.size+3<=wa.heap.size:=U3;have dG:=lt0 w wa;have aX:=ltA w 1 wa;have eJ:w.heap.size+1+1<wa.heap.size:=Ua))
 refine Jo fun W0 ag=>?_;have ax:=Nd w W0 Uz;have aQ:=Nd wa W0 Uz;have g0:=Na W0 (w.heap.size+1) 0 0 (Ja aQ Ub9);have f0:=Nc W0 (w.heap.size+1) 0 ((Jf aQ _ _ aX).trans ((bS _ _ Uh).trans Uc));have g1:=Na W0 (w.heap.size+1) 1 0 (Ja aQ Ub9);have f1:=Nc W0 (w.heap.size+1) 1 ((Jf aQ _ _ aX).trans ((bS _ _ Uh).trans Uc));have g2:=Na W0 (w.heap.size+1) 2 0 (Ja aQ Ub9);have f2:=Nc W0 (w.heap.size+1) 2 ((Jf aQ _ _ aX).trans ((bS _ _ Uh).trans Uc));have g3:=Na W0 (w.heap.size+1) 3 0 (Ja aQ Ub9);have f3:=Nc W0 (w.heap.size+1) 3 ((Jf aQ _ _ aX).trans ((bS _ _ Uh).trans Uc));have g4:=Na W0 (w.heap.size+1) 4 0 (Ja aQ Ub9);have f4:=Nc W0 (w.heap.size+1) 4 ((Jf aQ _ _ aX).trans ((bS _ _ Uh).trans Uc));have d0:=Na W0 (w.heap.size+1+1) 0 0 (Ja aQ Ub9);have e0:=Nc W0 (w.heap.size+1+1) 0 ((Jf aQ _ _ eJ).trans ((bS _ _ Uh).trans Uc));have q0:=Na W0 wa.heap.size 0 k1 Uf;have d1:=Na W0 (w.heap.size+1+1) 1 0 (Ja aQ Ub9);have e1:=Nc W0 (w.heap.size+1+1) 1 ((Jf aQ _ _ eJ).trans ((bS _ _ Uh).trans Uc));have q1:=Na W0 wa.heap.size 1 k2 Uf;have d2:=Na W0 (w.heap.size+1+1) 2 0 (Ja aQ Ub9);have e2:=Nc W0 (w.heap.size+1+1) 2 ((Jf aQ _ _ eJ).trans ((bS _ _ Uh).trans Uc));have q2:=Na W0 wa.heap.size 2 k3 Uf;clear ag aW bS aA aQ ae ah oS nx
 have bW:∀(w':World) (b o:Nat) (u:Value),b≠wa.heap.size->w'.cell? ⟨wa.heap.size,0,none⟩=some (.int .i64 k1)/\w'.cell? ⟨wa.heap.size,1,none⟩=some (.int .i64 k2)/\w'.cell? ⟨wa.heap.size,2,none⟩=some (.int .i64 k3)->(w'.setCell ⟨b,o,none⟩ u).cell? ⟨wa.heap.size,0,none⟩=some (.int .i64 k1)/\(w'.setCell ⟨b,o,none⟩ u).cell? ⟨wa.heap.size,1,none⟩=some (.int .i64 k2)/\(w'.setCell ⟨b,o,none⟩ u).cell? ⟨wa.heap.size,2,none⟩=some (.int .i64 k3):=fun w' b o u hb ⟨h1,h2,h3⟩=>
  ⟨(World.cell?_setCell_other _ _ _ _ Lh).trans h1,(World.cell?_setCell_other _ _ _ _ Lh).trans h2,(World.cell?_setCell_other _ _ _ _ Lh).trans h3⟩
 have gQ:=Nf bW;have oT:∀w':World,w'.cell? ⟨wa.heap.size,0,none⟩=some (.int .i64 k1)/\w'.cell? ⟨wa.heap.size,1,none⟩=some (.int .i64 k2)/\w'.cell? ⟨wa.heap.size,2,none⟩=some (.int .i64 k3)->w'.drew.cell? ⟨wa.heap.size,0,none⟩=some (.int .i64 k1)/\w'.drew.cell? ⟨wa.heap.size,1,none⟩=some (.int .i64 k2)/\w'.drew.cell? ⟨wa.heap.size,2,none⟩=some (.int .i64 k3):=fun _ h=>h;have HD:=Nf oT;clear bW oT;have ar:W0.drew.cell? ⟨wa.heap.size,0,none⟩=some (.int .i64 k1)/\W0.drew.cell? ⟨wa.heap.size,1,none⟩=some (.int .i64 k2)/\W0.drew.cell? ⟨wa.heap.size,2,none⟩=some (.int .i64 k3):=⟨q0,q1,q2⟩;refine Kd (fun w'=>w'.cell? ⟨wa.heap.size,0,none⟩=some (.int .i64 k1)/\w'.cell? ⟨wa.heap.size,1,none⟩=some (.int .i64 k2)/\w'.cell? ⟨wa.heap.size,2,none⟩=some (.int .i64 k3)) 4 1 Ue Gp ?_;simp only [List.size_toArray,Nl,Nm,Nat.zero_add,Nat.reduceAdd];refine Ji 0 ar ?_;refine Ji 1 ar ?_;refine Ji 2 ar ?_;refine Kb 3 ?_;refine Jj fun K hK=>?_;go_simp;have oy:=HD.out _ (gQ.out _ (w.heap.size+1) 4 (.int .i64 0) Ua (gQ.out _ (w.heap.size+1) 3 (.int .i64 0) Ua (gQ.out _ (w.heap.size+1) 2 (.int .i64 0) Ua (gQ.out _ (w.heap.size+1) 1 (.int .i64 0) Ua (gQ.out W0 (w.heap.size+1) 0 (.int .i64 0) Ua ⟨q0,q1,q2⟩)))));refine hK _ _ ⟨oy,Kh Ue ?_⟩;clear hK K
 try simp only [Act.put,sa1,sa2,sa3]
 refine Jgr fun W1 bt=>?_;have ac:=Nd w W1 (by rw [bt];exact Jh (Jdj _ _ _ _ _ ax Ua))
 obtain⟨r0,r1,r2,r3,r4⟩:=Jsy (W:=W0) (.int .i64 0) (.int .i64 0) (.int .i64 0) (.int .i64 0) (.int .i64 0) g0 g1 g2 g3 g4;have R:∀b o,W1.cell? ⟨b,o,none⟩=(((((W0.setCell ⟨w.heap.size+1,0,none⟩ (.int .i64 0)).setCell ⟨w.heap.size+1,1,none⟩ (.int .i64 0)).setCell ⟨w.heap.size+1,2,none⟩ (.int .i64 0)).setCell ⟨w.heap.size+1,3,none⟩ (.int .i64 0)).setCell ⟨w.heap.size+1,4,none⟩ (.int .i64 0)).cell? ⟨b,o,none⟩:=fun b o=>by rw [bt,Xi]
 have RF:∀p,W1.frozen? p=W0.frozen? p:=fun p=>by
  rw [bt,Jdn];exact Ji7 (W:=W0) (b:=w.heap.size+1) _ _ _ _ _ p
 have s0:=(R _ _).trans r0;have s1:=(R _ _).trans r1;have s2:=(R _ _).trans r2;have s3:=(R _ _).trans r3;have s4:=(R _ _).trans r4;have t0:=((R _ _).trans (Q8 _ _ _ _ _ Ua)).trans d0;have t1:=((R _ _).trans (Q8 _ _ _ _ _ Ua)).trans d1;have t2:=((R _ _).trans (Q8 _ _ _ _ _ Ua)).trans d2;have z0:=(RF _).trans e0;have z1:=(RF _).trans e1;have z2:=(RF _).trans e2;clear bt R RF r0 r1 r2 r3 r4 oy ar q0 q1 q2 g0 g1 g2 g3 g4 f0 f1 f2 f3 f4 d0 d1 d2 e0 e1 e2 gQ HD;refine Qx 4 ?_;refine Jj fun K hK=>?_;go_simp;refine hK _ _ ?_;clear hK K
 try simp only [Act.put,sa1,sa2,sa3]
 refine Ki Ue ?_;refine Zc fun W2 gi=>?_;obtain⟨r0,r1,r2⟩:=Jp5 (W:=W1) (.int .i64 k1) (.int .i64 k2) (.int .i64 k3) t0 t1 t2;have R:∀b o,W2.cell? ⟨b,o,none⟩=(((W1.setCell ⟨w.heap.size+1+1,0,none⟩ (.int .i64 k1)).setCell ⟨w.heap.size+1+1,1,none⟩ (.int .i64 k2)).setCell ⟨w.heap.size+1+1,2,none⟩ (.int .i64 k3)).cell? ⟨b,o,none⟩:=fun b o=>by rw [gi]
 have aq:=Nd w W2 (by rw [gi];exact Qq _ _ _ ac Ua)
 have x0:=(R _ _).trans r0;have x1:=(R _ _).trans r1;have x2:=(R _ _).trans r2;have y0:=((R _ _).trans (Qy _ _ _ Ua)).trans s0;have y1:=((R _ _).trans (Qy _ _ _ Ua)).trans s1;have y2:=((R _ _).trans (Qy _ _ _ Ua)).trans s2;have y3:=((R _ _).trans (Qy _ _ _ Ua)).trans s3;have y4:=((R _ _).trans (Qy _ _ _ Ua)).trans s4;clear gi R r0 r1 r2 s0 s1 s2 s3 s4 t0 t1 t2 z0 z1 z2
 go_wp2_with fail
 exact Nv (v:= .tuple #[.slice none 0 0,.agg #[.int .i64 0,.int .i64 0,.int .i64 0,.int .i64 0,.int .i64 0],.agg #[.int .i64 k1,.int .i64 k2,.int .i64 k3]]) Gu rfl ⟨rfl,aq⟩
end Go.Proofs.YtdgjplldlfeolaaGreatDoor
namespace Go.Proofs.YtdgjplldlfeolaaGreatDoor
open Go.RowKit Go.Sort
theorem Jir (W:World) (z:Array Value) (n:Nat) (t:TypeId) (o:Nat) (ho:o<n):(W.alloc (.cells (madeCells z n) t)).cell? ⟨W.heap.size,o,none⟩=some (z[o % z.size]!):=by
 rw [Kw];unfold madeCells;rw [Array.getElem?_map,Array.getElem?_range,if_pos ho];exact Gp
theorem Jy2 (W:World) (n:Nat) (t:TypeId):Zv (W.alloc (.cells (madeCells #[.bool false,.int .i64 0,.int .i64 0] (n * 3)) t)) W.heap.size (List.replicate n Pl.no):=by
 refine⟨fun k p hk=>?_,fun o=>Uc⟩;rw [List.getElem?_replicate] at hk
 split at hk
 ·injection hk with hk;subst hk;refine⟨?_,?_,?_⟩
  ·rw [Jir _ _ _ _ _ Ua];simp only [List.size_toArray,Nl,Nm,show k * 3 % (0+1+1+1)=0 by omega];exact Gp
  ·rw [Jir _ _ _ _ _ Ua];simp only [List.size_toArray,Nl,Nm,show(k * 3+1) % (0+1+1+1)=1 by omega];exact Gp
  ·rw [Jir _ _ _ _ _ Ua];simp only [List.size_toArray,Nl,Nm,show(k * 3+2) % (0+1+1+1)=2 by omega];exact Gp
 ·cases hk
theorem Jr0 (n:Nat):(List.replicate (n+1) Pl.no).set 0 ⟨true,0,0⟩=Jdk n:=by rw [List.replicate_succ];rfl
theorem Kos.get {w:World} {l:List (Int×Int)} {A:Option Addr} {cap:Nat} (h:Kos w l A cap) {k:Nat} {x:Int×Int} (hk:l[k]?=some x) :
  ∃b off,A=some ⟨b,off,none⟩/\b<w.heap.size/\w.cell? ⟨b,off+k * 2,none⟩=some (.int .i64 x.1)/\w.cell? ⟨b,off+k * 2+1,none⟩=some (.int .i32 x.2):=by
 have am:=(Nh hk).1;obtain⟨b,off,hA,hc⟩:=h.2.2.2 Ua;obtain⟨h1,h2⟩:=Joi l k x hk;have c1:=hc _ _ h1;have c2:=hc _ _ h2;rw [show off+(k * 2+1)=off+k * 2+1 by omega] at c2;exact⟨b,off,hA,Nu c1,c1,c2⟩
structure Jic (w:World) (B n:Nat) (f:Fr) (wr:World):Prop where
 b:Below w.heap.size w wr
 z:w.heap.size+2<=B/\B+2<=wr.heap.size
 k:wr.cell? ⟨w.heap.size,0,none⟩=some (.int .i64 f.s)/\wr.cell? ⟨w.heap.size,1,none⟩=some (.int .i64 f.o)/\wr.cell? ⟨w.heap.size,2,none⟩=some (.int .i64 f.n)/\wr.cell? ⟨w.heap.size,3,none⟩=some (.int .i64 f.i)/\wr.cell? ⟨w.heap.size,4,none⟩=some (.int .i64 f.u)
 r:wr.cell? ⟨w.heap.size+1,0,none⟩=some (.int .i64 0)/\wr.cell? ⟨w.heap.size+1,1,none⟩=some (.int .i64 0)/\wr.frozen? ⟨w.heap.size+1,0,none⟩=false/\wr.frozen? ⟨w.heap.size+1,1,none⟩=false
 x:wr.cell? ⟨B+1,0,none⟩=some (.slice (some ⟨B,0,none⟩) (n+1) (n+1))/\wr.cell? ⟨B+1,2,none⟩=some (.int .i64 0)
 fx:∀o,wr.frozen? ⟨B+1,o,none⟩=false
theorem Jic.later {w:World} {B n:Nat} {f:Fr} {W W':World} (h:Jic w B n f W) (hb:Below W.heap.size W W'):Jic w B n f W':=by
 have hz:=h.z
 exact⟨Jd h.b hb,⟨hz.1,Ds⟩,⟨Ja hb h.k.1,Ja hb h.k.2.1,Ja hb h.k.2.2.1,Ja hb h.k.2.2.2.1,Ja hb h.k.2.2.2.2⟩,
  ⟨Ja hb h.r.1,Ja hb h.r.2.1,(Jf hb _ _ Ua).trans h.r.2.2.1,(Jf hb _ _ Ua).trans h.r.2.2.2⟩,⟨Ja hb h.x.1,Ja hb h.x.2⟩,fun o=>(Jf hb _ _ Ua).trans (h.fx o)⟩
theorem Jic.kept {w:World} {B n:Nat} {f:Fr} {W W':World} (h:Jic w B n f W) (hk:J6 (fun b=>b=B\/b=B+1) W W') (x0:W'.cell? ⟨B+1,0,none⟩=W.cell? ⟨B+1,0,none⟩) (x2:W'.cell? ⟨B+1,2,none⟩=W.cell? ⟨B+1,2,none⟩) (fz:∀o,W'.frozen? ⟨B+1,o,none⟩=W.frozen? ⟨B+1,o,none⟩):Jic w B n f W':=by
 have hz:=h.z;have hw:=h.b.size;have c:=fun(b o:Nat) (v:Value) (hb:¬(b=B\/b=B+1)) hc=>hk.cell (b:=b) (o:=o) (v:=v) hb hc;have fr:=fun(b o:Nat) (hl:b<W.heap.size) (hb:¬(b=B\/b=B+1))=>World.frozen?_of_block (a:=⟨b,o,none⟩) (hk.block b hl hb)
 exact⟨hk.below h.b (fun j hj=>Ua),⟨hz.1,by have:=hk.size;omega⟩,⟨c _ _ _ Ua h.k.1,c _ _ _ Ua h.k.2.1,c _ _ _ Ua h.k.2.2.1,c _ _ _ Ua h.k.2.2.2.1,c _ _ _ Ua h.k.2.2.2.2⟩,
  ⟨c _ _ _ Ua h.r.1,c _ _ _ Ua h.r.2.1,(fr _ _ Ua Ua).trans h.r.2.2.1,(fr _ _ Ua Ua).trans h.r.2.2.2⟩,⟨x0.trans h.x.1,x2.trans h.x.2⟩,fun o=>(fz o).trans (h.fx o)⟩
def Jk7 (J:(Int×Int)×Int×Int):Value:= .tuple #[.agg #[.int .i64 J.1.1,.int .i64 J.1.2],.int .i64 J.2.1,.int .i64 J.2.2]
theorem Jmz (c:List (Int×Int)) (A:Option Addr) (cap:Nat) (f:Fr) (w:World) (hc:Kos w c A cap) (hN:∀i∈c,I32 i.2) :
  Calls Tryz.prog 29 #[.slice A c.length cap,frV f] w fun r w'=>r = .returned (Jk7 (Yi c f))/\Below w.heap.size w w':=by
 have fq:=fun W=>Jt4 f W;obtain⟨J,hJ⟩:∃J,J=Yi c f:=⟨_,rfl⟩;rw [<-hJ];unfold Yi at hJ;have bO:=hc.1;have fG:=hc.2.1;unfold maxLen at fG;unfold Jk7
 by_cases hg:f.good=false
 ·rw [if_pos hg] at hJ;rw [hg] at fq;simp only [Bool.false_eq_true,if_false] at fq;subst hJ;unfold frV at *;clear hg hN hc
  go_enter Tryz.func29,Tryz.ntmps29
  go_wp2_with (first|(go_at_call 56;refine(fq _).mono ?_;rintro r w1 ⟨rfl,ac⟩;have af:w.heap.size+2<=w1.heap.size:=L6;have g0:=Na w1 (w.heap.size+1) 0 0 (Ja ac Uc);have g1:=Na w1 (w.heap.size+1) 1 0 (Ja ac Uc);have f0:=Nc w1 (w.heap.size+1) 0 ((Jf ac _ _ Uh).trans Uc);have f1:=Nc w1 (w.heap.size+1) 1 ((Jf ac _ _ Uh).trans Uc);have aC:=Nd w w1 Jb))
  refine Nv (v:= .tuple #[.agg #[.int .i64 0,.int .i64 0],.int .i64 1,.int .i64 0]) Lx rfl ⟨rfl,?_⟩;exact Uax
 rw [if_neg hg] at hJ;rw [show f.good=true by simpa using hg] at fq;simp only [if_true] at fq;clear hg
 by_cases dP:600<c.length
 ·rw [if_pos dP] at hJ;subst hJ;have tb:(600:Int)<(c.length:Int):=Ua;unfold frV at *;clear hN hc
  go_enter Tryz.func29,Tryz.ntmps29
  go_wp2_with (first|(go_at_call 56;refine(fq _).mono ?_;rintro r w1 ⟨rfl,ac⟩;have af:w.heap.size+2<=w1.heap.size:=L6;have g0:=Na w1 (w.heap.size+1) 0 0 (Ja ac Uc);have g1:=Na w1 (w.heap.size+1) 1 0 (Ja ac Uc);have f0:=Nc w1 (w.heap.size+1) 0 ((Jf ac _ _ Uh).trans Uc);have f1:=Nc w1 (w.heap.size+1) 1 ((Jf ac _ _ Uh).trans Uc);have aC:=Nd w w1 Jb))
  refine Nv (v:= .tuple #[.agg #[.int .i64 0,.int .i64 0],.int .i64 3,.int .i64 0]) Lx rfl ⟨rfl,?_⟩;exact Uax
 rw [if_neg dP] at hJ;have tb:¬(600:Int)<(c.length:Int):=Ua;have HC:=Nf hc;have HN:=Nf hN;have HJ:=Nf hJ;clear hc hN hJ;have jH:=fun W:World=>run_make (P:=Tryz.prog) W 129 133 (Tryz.prog.info? 133).get! (.agg #[.bool false,.int .i64 0,.int .i64 0]) Tryz.underlying129 Ue Ue .i64 .i64 ((c.length:Int)+1) ((c.length:Int)+1) Ua Ua (by rw [show(Tryz.prog.info? 133).get!.bytes=24 by kernel_rfl];omega) Ua;rw [show(Tryz.prog.info? 133).get!.size=3 by kernel_rfl] at jH;simp only [show((c.length:Int)+1).toNat=c.length+1 by omega] at jH;unfold frV at *
 go_enter Tryz.func29,Tryz.ntmps29
 go_upto_region 7 with (first|(go_at_call 56;refine(fq _).mono ?_;rintro r w1 ⟨rfl,ac⟩;have af:w.heap.size+2<=w1.heap.size:=L6;have g0:=Na w1 (w.heap.size+1) 0 0 (Ja ac Uc);have g1:=Na w1 (w.heap.size+1) 1 0 (Ja ac Uc);have f0:=Nc w1 (w.heap.size+1) 0 ((Jf ac _ _ Uh).trans Uc);have f1:=Nc w1 (w.heap.size+1) 1 ((Jf ac _ _ Uh).trans Uc);have aC:=Nd w w1 Jb))
 refine Jo fun V hV=>?_;have bK:=Nd w1 V Vj;have dZ:=Jd aC bK;have hpV:Zv V w1.heap.size (List.replicate (c.length+1) Pl.no):=by rw [hV];exact(Jy2 w1 (c.length+1) 133).later Uh (Jc (Nt) _)
 have x0:=Nb V (w1.heap.size+1) 0 (.slice (some ⟨w1.heap.size,0,none⟩) (c.length+1) (c.length+1)) Uj;have x1:=Na V (w1.heap.size+1) 1 0 Uj;have x2:=Na V (w1.heap.size+1) 2 0 Uj;have fx:∀o,V.frozen? ⟨w1.heap.size+1,o,none⟩=false:=by intro o;rw [hV];go_simp
 have k0:=Na V w.heap.size 0 f.s (Ja bK (Ja ac Uc));have k1:=Na V w.heap.size 1 f.o (Ja bK (Ja ac Uc));have k2:=Na V w.heap.size 2 f.n (Ja bK (Ja ac Uc));have k3:=Na V w.heap.size 3 f.i (Ja bK (Ja ac Uc));have k4:=Na V w.heap.size 4 f.u (Ja bK (Ja ac Uc));have xe:(List.replicate (c.length+1) Pl.no)[0]?=some Pl.no:=by rw [List.replicate_succ];rfl
 obtain⟨p0,p1,p2⟩:=hpV.cell 0 Pl.no xe;have hfp:=hpV.fz 0;have mQ:w1.heap.size+2<=V.heap.size:=Mj;have zc:=Nf hpV;clear hV hpV jH
 go_wp2_with fail
 refine Jo fun V2 bz=>?_
 have dS:Zv V2 w1.heap.size (Jdk c.length):=by
  rw [bz,<-Jr0];exact zc.out.set (p:=⟨true,0,0⟩) (fun o ho=>J5 _ _ _ _ _ Ua) (Nx _ _ _ p0) ((J5 _ _ _ _ _ Ug).trans p1) ((J5 _ _ _ _ _ Ug).trans p2) (fun o=>World.frozen?_setCell ..)
 have aq:=Nd w V2 (by rw [bz];exact Below.setCell dZ (show w.heap.size<=w1.heap.size by omega) _)
 have ze:w1.heap.size+2<=V2.heap.size:=by rw [bz];simpa using mQ
 have x0':=Nb V2 (w1.heap.size+1) 0 (.slice (some ⟨w1.heap.size,0,none⟩) (c.length+1) (c.length+1)) (by rw [bz,Qm _ _ _ _ _ _ Ua];exact x0)
 have x1':=Na V2 (w1.heap.size+1) 1 0 (by rw [bz,Qm _ _ _ _ _ _ Ua];exact x1)
 have x2':=Na V2 (w1.heap.size+1) 2 0 (by rw [bz,Qm _ _ _ _ _ _ Ua];exact x2)
 have fx':∀o,V2.frozen? ⟨w1.heap.size+1,o,none⟩=false:=fun o=>by rw [bz,World.frozen?_setCell];exact fx o
 have iP:J6 (fun b=>b=w1.heap.size\/b=w1.heap.size+1) V V2:=by rw [bz];exact(J6.refl V).setCell (.inl rfl) _ _
 have k0':=iP.cell (b:=w.heap.size) Ua k0;have k1':=iP.cell (b:=w.heap.size) Ua k1;have k2':=iP.cell (b:=w.heap.size) Ua k2;have k3':=iP.cell (b:=w.heap.size) Ua k3;have k4':=iP.cell (b:=w.heap.size) Ua k4;have r0':=iP.cell (b:=w.heap.size+1) Ua (Ja bK g0);have r1':=iP.cell (b:=w.heap.size+1) Ua (Ja bK g1);have s0':=Nc V2 (w.heap.size+1) 0 (by rw [bz,World.frozen?_setCell];exact(Jf bK _ _ Ua).trans f0)
 have s1':=Nc V2 (w.heap.size+1) 1 (by rw [bz,World.frozen?_setCell];exact(Jf bK _ _ Ua).trans f1)
 have cP:Jic w w1.heap.size c.length f V2:=⟨aq,⟨Ua,ze⟩,⟨k0',k1',k2',k3',k4'⟩,⟨r0',r1',s0',s1'⟩,⟨x0',x2'⟩,fx'⟩;have cJ:=Nf cP;have jW:=Nf dS;clear cP dS bz x0 x1 x2 fx k0 k1 k2 k3 k4 p0 p1 p2 hfp zc iP xe g0 g1 f0 f1 bK dZ ac k0' k1' k2' k3' k4' r0' r1' s0' s1' x0' x2' fx' aq ze mQ aC fq;generalize w1.heap.size=B at *
 go_loopw [37] (fun i wr=>∃(k:Nat) (ps:List Pl) (dep:Int),k<=c.length/\i = .int .i64 k/\Hid (Jaa k c.length dep ps)/\Hid (goJ f c.length k (c.drop k) ps dep=J)/\Hid (Zv wr B ps)/\wr.cell? ⟨B+1,1,none⟩=some (.int .i64 dep)/\Hid (Jic w B c.length f wr)) (fun i _=>c.length-(intOf i).toNat)
 case atStart=>exact⟨0,Jdk c.length,0,Np,rfl,Nf (Jaa.start _),Nf HJ.out.symm,jW,x1',cJ⟩
 case round=>
  obtain⟨k,ps,dep,hk,rfl,aw,zg,dS,x1,cP⟩:=hrel;obtain⟨ab,⟨hz1',zh⟩,⟨k0,k1,k2,k3,k4⟩,⟨r0,r1,s0,s1⟩,⟨x0,x2⟩,fx⟩:=id cP.out;have lu:=lt0 w wr;have ud:=ltA w 1 wr;have hyB:B<wr.heap.size:=Ua;have hyB1:B+1<wr.heap.size:=Ua
  by_cases am:k<c.length
  ·have hx:c[k]?=some c[k]:=Ng am;have hdr:c.drop k=c[k] :: c.drop (k+1):=No am;have hI:=HN.out c[k] (Nj am);generalize c[k]=x at hx hdr hI;obtain⟨op,N⟩:=x;obtain⟨b,off,hA,aH,y0,y1⟩:=(HC.out.later ab).get hx;subst hA;have hg:=zg.out;rw [hdr,goJ] at hg;have ai:=aw.out.len;have uB:=fun W' (hb:Below wr.heap.size wr W')=>Jp0 (B+1) B ps dep k c.length op N f W' Ua (by rw [ai];exact Ja hb x0) (Ja hb x1) ((Jf hb _ _ Ua).trans (fx 1)) (dS.out.later Ua hb) Ds aw.out am Ua hI;have uC:=aw.out.one (f:=f) (at_:=k) (i:=(op,N));dsimp only at y0 y1;unfold frV at uB;generalize Jct f k (op,N) ps dep=res at *;have zi:=Nf uB;clear uB hx hdr ai hI
   by_cases he:res.1=0
   ·rw [if_neg Ua] at hg;obtain⟨e,ps2,dep2⟩:=res;dsimp only at *;subst he;have HG:=Nf hg;have HOK2:=Nf (uC rfl);clear zg HJ jW cJ aw uC dS x1' hg
    go_wp2_with (go_at_call 57;go_loud (refine(zi.out _ Jb).mono ?_;rintro r w3 ⟨rfl,ip,dU,hx3,hx4,fe⟩;have hj3:=(cP.out.later (show Below wr.heap.size wr _ from Jb)).kept dU hx3 hx4 fe;obtain⟨bT,wT⟩:=ip rfl))
    go_roundw
    case rel=>exact⟨k+1,ps2,dep2,Ua,Uw,HOK2,HG,Nf bT,wT,Nf hj3⟩
    case measure=>simp [intOf];omega
   ·rw [if_pos he] at hg;subst hg;have HE:=Nf he;have te:(res.1 != 0)=true:=F8;clear he zg HJ jW cJ aw uC dS x1'
    go_wp2_with (go_at_call 57;go_loud (refine(zi.out _ Jb).mono ?_;rintro r w3 ⟨rfl,-,dU,hx3,hx4,fe⟩;have hj3:=(cP.out.later (show Below wr.heap.size wr _ from Jb)).kept dU hx3 hx4 fe;obtain⟨en,-,-,⟨r03,r13,s03,s13⟩,-,-⟩:=id hj3))
    refine Nv (v:= .tuple #[.agg #[.int .i64 0,.int .i64 0],.int .i64 res.1,.int .i64 k]) Lx rfl ⟨rfl,?_⟩;exact Below.setCell (Below.setCell en (show w.heap.size<=w.heap.size+1 by omega) _) (show w.heap.size<=w.heap.size+1 by omega) _
  ·obtain rfl:k=c.length:=Ua;have hg:=zg.out;rw [Nn,goJ] at hg;have ai:=aw.out.len;have hx:ps[c.length]?=some ps[c.length]:=Ng Ua;generalize ps[c.length]=p at hx;rw [Jrn hx] at hg;obtain⟨b0,b1,b2⟩:=dS.out.cell c.length p hx;have fx2:=fx 2;clear ai hx zg HJ jW cJ aw dS x1' HC HN
   by_cases hd:p.d=0
   ·rw [if_neg Ua] at hg;subst hg;have td:(p.d != 0)=false:=G2;obtain⟨pm,pd,pf⟩:=p;dsimp only at *;subst hd
    go_wp2_with fail
    refine Nv (v:= .tuple #[.agg #[.int .i64 dep,.int .i64 pf],.int .i64 0,.int .i64 0]) Lx rfl ⟨rfl,?_⟩;exact Jc (Below.setCell (Below.setCell (Below.setCell ab (show w.heap.size<=B+1 by omega) _) (show w.heap.size<=w.heap.size+1 by omega) _) (show w.heap.size<=w.heap.size+1 by omega) _) _
   ·rw [if_pos Ua] at hg;subst hg;have td:(p.d != 0)=true:=G2;clear hd
    go_wp2_with fail
    refine Nv (v:= .tuple #[.agg #[.int .i64 0,.int .i64 0],.int .i64 12,.int .i64 c.length]) Lx rfl ⟨rfl,?_⟩;exact Jc (Below.setCell (Below.setCell ab (show w.heap.size<=w.heap.size+1 by omega) _) (show w.heap.size<=w.heap.size+1 by omega) _) _
theorem Jv5 {op N:Int} (h:Qj (op,N)=0):1<=op/\op<=11:=by
 unfold Qj at h;dsimp only at h
 by_cases h0:Qp op=0
 ·rw [if_pos h0] at h;exact absurd h Ug
 unfold Qp at h0
 repeat' split at h0
 all_goals omega
theorem Js2 {c:List (Int×Int)} {k:Nat} {x:Int×Int} (h:c[k]?=some x):Ja7 (c.take (k+1))=Ja7 (c.take k) ++ Jdm x:=by
 rw [List.take_add_one,h];exact Js9 _ _
theorem Jjg (c:List (Int×Int)) (A:Option Addr) (cap:Nat) (w:World) (hc:Kos w c A cap) (hl:c.length<=600) (hr:∀i∈c,Qj i=0) (hN:∀i∈c,I32 i.2) :
  Calls Tryz.prog 64 #[.slice A c.length cap] w (Y8 w (Ja7 c)):=by
 unfold Y8;have fG:=hc.2.1;have bO:=hc.1;unfold maxLen at fG;have tb:¬(600:Int)<(c.length:Int):=Ua;have HC:=Nf hc;have HN:=Nf hN;have HRR:=Nf hr;clear hc hN hr
 go_enter Tryz.func64,Tryz.ntmps64
 go_wp2_with fail
 go_loopw [4,14] (fun v i wr=>∃k:Nat,k<=c.length/\i = .int .i64 k/\wr.ownsRow w.heap.size 5 1 v (Ja7 (c.take k)).length (byU (Ja7 (c.take k)))/\Below w.heap.size w wr) (fun _ i _=>c.length-(intOf i).toNat)
 case atStart=>exact⟨0,Np,rfl,Nw,Nt⟩
 case round=>
  obtain⟨k,hk,rfl,ae,ab⟩:=hrel;have hz:=ab.size
  by_cases am:k<c.length
  ·have hx:c[k]?=some c[k]:=Ng am;have hI:=HN.out c[k] (Nj am);have hR:=HRR.out c[k] (Nj am);generalize c[k]=x at hx hI hR;obtain⟨op,N⟩:=x;obtain⟨b,off,rfl,aH,y0,y1⟩:=(HC.out.later ab).get hx;have aP:=Js2 hx;have bI:=Jit (c.take k);have aD:=Jnq (op,N);rw [List.length_take] at bI;have gl:=fun W=>Js5 op N W hR hI (Jv5 hR);unfold Y8 at gl;have eZ:=Nf aP;dsimp only at y0 y1;generalize Jdm (op,N)=bs at *;generalize dV:Ja7 (c.take k)=ins at *;clear aP hx hI hR dV
   go_wp2_with (first
    | (go_at_call 98;refine(gl _).mono ?_;rintro r w2 ⟨⟨v2,rfl,ao⟩,aq⟩;obtain⟨A2,c2,rfl,aY⟩:=Qc.of_own ao)
    | (at_builtin;go_loud (refine K6 rfl (.tmp 26) (.tmp 27) 50 rfl w.heap.size 5 _ 1 1 Tryz.underlying50 Jgl rfl Ua _ ins.length (byU ins) A2 bs.length c2 (byU bs) rfl (Jy (Js ae) aq) rfl aY.2.2 (Jgm _) Ua Ua (by have:=aq.size;simp at this;omega) ?_;intro v3 w3 aE aM)))
   go_roundw
   case rel=>exact⟨k+1,Ua,Uw,by rw [eZ.out,Jeu,Nk];exact aE,(Jd ab (Jd (Jc (Nt) _) aq)).trans aM⟩
   case measure=>simp [intOf];omega
  ·obtain rfl:k=c.length:=Ua;rw [List.take_length] at ae
   go_wp2_with fail
   go_ret2
   exact⟨⟨_,rfl,ae⟩,ab⟩
structure ImA where
 A1:Option Addr
 c1:Nat
 A2:Option Addr
 c2:Nat
 A3:Option Addr
 c3:Nat
def imV (m:Im) (a:ImA):Value:= .agg #[.int .u32 m.ver,.int .u32 m.fro,.int .i64 m.eld,.int .i64 m.fr.s,.int .i64 m.fr.o,.int .i64 m.fr.n,.int .i64 m.fr.i,.int .i64 m.fr.u,.slice a.A1 m.first.length a.c1,.slice a.A2 m.step.length a.c2,.slice a.A3 m.move.length a.c3,.int .i64 m.sf,.int .i64 m.mf]
structure Jd5 (W:World) (m:Im) (a:ImA):Prop where
 first:Qc W (nuI m.first) m.first.length a.A1 a.c1
 step:Kos W m.step a.A2 a.c2
 move:Kos W m.move a.A3 a.c3
theorem Jd5.later {W W':World} {m:Im} {a:ImA} (h:Jd5 W m a) (hb:Below W.heap.size W W'):Jd5 W' m a:=⟨h.first.later hb,h.step.later hb,h.move.later hb⟩
structure Jsj (m:Im):Prop where
 ver:0<=m.ver/\m.ver<4294967296
 fro:0<=m.fro/\m.fro<4294967296
 first:∀x∈m.first,I32 x
 step:∀i∈m.step,I32 i.2
 move:∀i∈m.move,I32 i.2
theorem Jtt (m:Im) (a:ImA) (w:World):Calls Tryz.prog 33 #[imV m a] w fun r w'=>r = .returned (frV m.moves)/\Below w.heap.size w w':=by
 unfold imV frV Im.moves;dsimp only
 go_enter Tryz.func33,Tryz.ntmps33
 go_wp2_with fail
 refine Nv (v:= .agg #[.int .i64 0,.int .i64 m.eld,.int .i64 m.fr.n,.int .i64 0,.int .i64 0]) (by simp [results,Tryz.results33,go_sem, *]) rfl ⟨rfl,?_⟩;exact Km
theorem Jmr (c:List (Int×Int)) (A:Option Addr) (cap:Nat) (f:Fr) (fuel:Int) (w:World) (hc:Kos w c A cap) (hN:∀i∈c,I32 i.2) :
  Calls Tryz.prog 32 #[.slice A c.length cap,frV f,.int .i64 fuel] w fun r w'=>r = .returned (.int .i64 (Jcj c f fuel))/\Below w.heap.size w w':=by
 have hj:=fun W h=>Jmz c A cap f W (hc.later h) hN;obtain⟨R,hR⟩:∃R,R=Jcj c f fuel:=⟨_,rfl⟩;rw [<-hR];unfold Jcj at hR;unfold Jk7 frV at *;clear hc hN;generalize (Yi c f).1.1=dep at *;generalize (Yi c f).1.2=fu at *;generalize (Yi c f).2.1=e at *;generalize (Yi c f).2.2=at_ at *
 by_cases h0:e=0
 ·subst h0
  by_cases hf:fu=fuel
  ·rw [if_neg (by simp [hf])] at hR;have tf:(fu != fuel)=false:=S5;exact Uak
  ·rw [if_pos ⟨rfl,hf⟩] at hR;have tf:(fu != fuel)=true:=S5;exact Uak
 ·rw [if_neg (fun h=>h0 h.1)] at hR;have te:(e == 0)=false:=Lv;have HR:=Nf hR;clear hR h0
  go_enter Tryz.func32,Tryz.ntmps32
  go_wp2_with (go_at_call 29;refine(hj _ Jb).mono ?_;rintro r w1 ⟨rfl,ac⟩)
  go_ret;exact⟨Jm HR.out.symm,Jb⟩
theorem Qc.own2 {w:World} {base:Nat} {e:TypeId} {xs:List Value} {n cap:Nat} {A:Option Addr} (h:w.ownsRow base e 1 (.slice A n cap) n xs):Qc w xs n A cap:=by
 obtain⟨A2,c2,hv,hc⟩:=Qc.of_own h;injection hv with e1 e2 e3;subst e1 e3;exact hc
structure Jf6 (W:World) (gb gk:Nat) (l:List Int):Prop where
 b:∃A cap,W.cell? ⟨gb,0,none⟩=some (.slice A l.length cap)/\Qc W (byU l) l.length A cap
 fz:W.frozen? ⟨gb,0,none⟩=false
 ok:W.cell? ⟨gk,0,none⟩=some (.bool true)
 ne:gb≠gk
theorem Jf6.lt {W:World} {gb gk:Nat} {l:List Int} (h:Jf6 W gb gk l):gb<W.heap.size/\gk<W.heap.size:=by
 obtain⟨A,cap,h1,_⟩:=h.b;exact⟨Nu h1,Nu h.ok⟩
theorem Jf6.later {W W':World} {gb gk:Nat} {l:List Int} (h:Jf6 W gb gk l) (hb:Below W.heap.size W W'):Jf6 W' gb gk l:=by
 obtain⟨A,cap,h1,h2⟩:=h.b;exact⟨⟨A,cap,Ja hb h1,h2.later hb⟩,(Jf hb _ _ h.lt.1).trans h.fz,Ja hb h.ok,h.ne⟩
def Jze (W:World) (gb gk:Nat) (l:List Int) (r:Ending) (w':World):Prop:=r = .returned (.tuple #[])/\Jf6 w' gb gk l/\J6 (fun k=>k=gb) W w'
theorem Jw7 (gb gk:Nat) (l bs:List Int) (width:Int) (n:Nat) (W:World) (h:Jf6 W gb gk l)
  (iF:∀(A:Option Addr) (cap:Nat) (W:World),Qc W (byU l) l.length A cap->Calls Tryz.prog 59 #[.slice A l.length cap,.int .i64 width,.int .u64 n] W (Y8 W (l ++ bs))) :
  Calls Tryz.prog 58 #[.int .i64 width,.int .u64 n,.pointer (some ⟨gb,0,none⟩),.pointer (some ⟨gk,0,none⟩)] W (Jze W gb gk (l ++ bs)):=by
 obtain⟨⟨A,cap,b0,hc⟩,fz,ok,ne⟩:=h;have am:=Nu b0;have az:=fun W' hb=>iF A cap W' (hc.later hb);clear iF hc;generalize l ++ bs=l2 at *;unfold Y8 at az
 go_enter Tryz.func58,Tryz.ntmps58
 go_wp2_with (go_at_call 59;go_loud (refine(az _ Jb).mono ?_;rintro r w2 ⟨⟨v,rfl,ae⟩,aq⟩;obtain⟨A2,c2,rfl,aY⟩:=Qc.of_own ae;have b0':=Ja aq b0;have fz':=(Jf aq gb 0 am).trans fz;have ok':=Ja aq ok))
 go_end0
 refine⟨rfl,⟨⟨A2,c2,Nx _ _ _ b0',?_⟩,(World.frozen?_setCell ..).trans fz',(Qm _ _ _ _ _ _ (Ne.symm ne)).trans ok',ne⟩,(J6.bel (S:=fun k=>k=gb) aq).setCell rfl _ _⟩;exact Qc.own2 (Kn ae (fun b hb he=>Da) _ _)
theorem Jwn (gb gk:Nat) (l x:List Int) (A2:Option Addr) (cap2:Nat) (W:World) (h:Jf6 W gb gk l) (hx:Qc W (byU x) x.length A2 cap2) (hl:l.length<=100000) (hn:x.length<=65535) :
  Calls Tryz.prog 60 #[.slice A2 x.length cap2,.int .i64 0,.pointer (some ⟨gb,0,none⟩),.pointer (some ⟨gk,0,none⟩)] W (Jze W gb gk (l ++ Jcs x)):=by
 obtain⟨⟨A,cap,b0,hc⟩,fz,ok,ne⟩:=h;have am:=Nu b0;have az:=fun W' (hb:Below W.heap.size W W')=>Jq2 l x A cap A2 cap2 W' (hc.later hb) (hx.later hb) hl hn;clear hc hx;generalize l ++ Jcs x=l2 at *;unfold Y8 at az
 go_enter Tryz.func60,Tryz.ntmps60
 go_wp2_with (go_at_call 61;go_loud (refine(az _ Jb).mono ?_;rintro r w2 ⟨⟨v,rfl,ae⟩,aq⟩;obtain⟨A2,c2,rfl,aY⟩:=Qc.of_own ae;have b0':=Ja aq b0;have fz':=(Jf aq gb 0 am).trans fz;have ok':=Ja aq ok))
 go_end0
 refine⟨rfl,⟨⟨A2,c2,Nx _ _ _ b0',?_⟩,(World.frozen?_setCell ..).trans fz',(Qm _ _ _ _ _ _ (Ne.symm ne)).trans ok',ne⟩,(J6.bel (S:=fun k=>k=gb) aq).setCell rfl _ _⟩;exact Qc.own2 (Kn ae (fun b hb he=>Da) _ _)
theorem Jqe (m:Im) (a:ImA) (w:World) (hm:Jd5 w m a) (aw:Jsj m) :
  Calls Tryz.prog 14 #[imV m a] w fun r w'=>r = .returned (.int .i64 m.wrong)/\Below w.heap.size w w':=by
 have ac:=fun W (h:Below w.heap.size w W)=>Jmr m.step a.A2 a.c2 m.fr m.sf W (hm.step.later h) aw.step;have aq:=fun W (h:Below w.heap.size w W)=>Jmr m.move a.A3 a.c3 m.moves m.mf W (hm.move.later h) aw.move;have hmv:=fun W=>Jtt m a W;have ak:=hm.first.1;have kE:=hm.move.1;obtain⟨R,hR⟩:∃R,R=m.wrong:=⟨_,rfl⟩;rw [<-hR];unfold Im.wrong at hR;obtain⟨A1,c1,A2,c2,A3,c3⟩:=a;unfold imV at *;unfold frV at ac aq hmv;dsimp only at *;generalize Jcj m.step m.fr m.sf=e1 at *;generalize Jcj m.move m.moves m.mf=e2 at *;generalize m.moves=mv at *;have HB1:=Nf ac;have HB2:=Nf aq;have HMV:=Nf hmv;clear hm aw ac aq hmv
 by_cases a1:m.ver=0
 ·have hv:R=1:=by rw [hR,if_pos (.inl a1)]
  have t1:(m.ver == 0)=true:=by simpa using a1
  exact Uay
 have t1:(m.ver == 0)=false:=by simpa using a1
 by_cases a2:m.ver<=m.fro
 ·have hv:R=1:=by rw [hR,if_pos (.inr (.inl a2))]
  exact Uay
 by_cases a3:m.eld<0
 ·have hv:R=1:=by rw [hR,if_pos (.inr (.inr (.inl a3)))]
  exact Uay
 by_cases a4:16<m.eld
 ·have hv:R=1:=by rw [hR,if_pos (.inr (.inr (.inr a4)))]
  exact Uay
 rw [if_neg Ua] at hR
 by_cases b1:m.fr.o≠m.fr.n
 ·have hv:R=1:=by rw [hR,if_pos (.inl b1)]
  have t2:(m.fr.o != m.fr.n)=true:=by simpa using b1
  clear hR a1 b1;exact Ua6
 have t2:(m.fr.o != m.fr.n)=false:=by simpa using b1
 by_cases b2:(m.first.length:Int)≠m.fr.n
 ·have hv:R=1:=by rw [hR,if_pos (.inr b2)]
  have t3:((m.first.length:Int) != m.fr.n)=true:=by simpa using b2
  clear hR a1 b1 b2;exact Ua6
 have t3:((m.first.length:Int) != m.fr.n)=false:=by simpa using b2
 rw [if_neg Ua] at hR;clear a1 b1 b2
 by_cases f0:m.fro=0
 ·have t4:(m.fro == 0)=true:=by simpa using f0
  by_cases d1:0<m.eld
  ·have hv:R=1:=by rw [hR,if_pos ⟨f0,.inl d1⟩]
   clear hR f0;exact Ua6
  by_cases d2:0<m.move.length
  ·have hv:R=1:=by rw [hR,if_pos ⟨f0,.inr d2⟩]
   have d2':(0:Int)<(m.move.length:Int):=Ua;clear hR f0 d2;exact Ua6
  have d2':¬(0:Int)<(m.move.length:Int):=Ua;rw [if_neg (fun h=>Ua)] at hR;clear f0 d2;exact Te
 ·have t4:(m.fro == 0)=false:=by simpa using f0
  rw [if_neg (fun h=>f0 h.1)] at hR;clear f0;exact Te
structure Kpc (w:World) (V:List Va) (A:Option Addr) (c D n:Nat) (d:ByteArray->Option Int):Prop where
 vars:Ju w V A c
 map:Jz Tryz.prog 9 3 w D n d
 rng:∀s i,d s=some i->0<=i/\i<(V.length:Int)
 names:∀v∈V,v.name.size<=maxLen
 len:V.length<=16
theorem Kpc.later {w w':World} {V:List Va} {A:Option Addr} {c D n:Nat} {d:ByteArray->Option Int} (h:Kpc w V A c D n d) (hb:Below w.heap.size w w'):Kpc w' V A c D n d:=⟨h.vars.later hb,h.map.bel hb,h.rng,h.names,h.len⟩
def Kqm (V:List Va) (A:Option Addr) (c D:Nat) (Ac:Option Addr) (nc cc:Nat):Value:= .agg #[.slice A V.length c,.map (some D),.slice Ac nc cc]
def Krt (w:World) (r:Ending) (w':World):Prop:=
 (∃V A c D n d Ac nc cc,r = .returned (.tuple #[Kqm V A c D Ac nc cc,.int .i64 0])/\Off w.heap.size none w' (fun W=>Kpc W V A c D n d))/\Below w.heap.size w w'
def VaM (f:ByteArray->Option Value):Prop:=∀s v,f s=some v->∃x:Va,v=vaV x/\x.name.size<=maxLen
theorem Kta {f:ByteArray->Option Value} {x:Va} (h:VaM f) (hx:x.name.size<=maxLen) (s:ByteArray):VaM (Jki f s (vaV x)):=fun t v hv=>by
 unfold Jki at hv
 split at hv
 ·injection hv with hv;exact⟨x,hv.symm,hx⟩
 ·exact h t v hv
theorem Ktk {f:ByteArray->Option Value} (h:VaM f) (s:ByteArray):∃x:Va,(f s).getD (.agg #[.string ⟨#[]⟩,.int .i64 0,.int .i64 0,.string ⟨#[]⟩]) = .agg #[.string x.name,.int .i64 x.type,.int .i64 x.ck,.string x.cn]/\x.name.size<=maxLen:=by
 cases hf:f s with
 | none=>exact⟨⟨⟨#[]⟩,0,0,⟨#[]⟩⟩,rfl,Np⟩
 | some v=>
  obtain⟨x,rfl,hx⟩:=h s v hf;exact⟨x,rfl,hx⟩
theorem Ktg (w:World):(zeroValue 83).run Tryz.prog w = .ok (.agg #[.string ⟨#[]⟩,.int .i64 0,.int .i64 0,.string ⟨#[]⟩]) w:=Ue
theorem Kr7 (m:List Va) (x:Va):Xe m ++ vaC x=Xe (m ++ [x]):=by simp [Xe]
structure Lk2 (W1 wr:World) (X D R k n:Nat) (V:List Va) (Av:Option Addr) (cv:Nat) (d:ByteArray->Option Int):Prop where
 len:V.length=min k R
 nk:n<=k
 nm:∀v∈V,v.name.size<=maxLen
 c0:wr.cell? ⟨X,0,none⟩=some (.slice Av V.length cv)
 f0:wr.frozen? ⟨X,0,none⟩=false
 own:wr.ownsRow W1.heap.size 83 4 (.slice Av V.length cv) V.length (Xe V)
 map:Jz Tryz.prog 9 3 wr D n d
 rng:∀s i,d s=some i->0<=i/\i<(V.length:Int)
 kept:J6 (fun b=>b=X\/b=D) W1 wr
 XW:X<W1.heap.size
 DW:D<W1.heap.size
 ne:X≠D
 oth:∀o u,o≠0->W1.cell? ⟨X,o,none⟩=some u->wr.cell? ⟨X,o,none⟩=some u
section
variable {W1 wr w3 w4:World} {X D R k n:Nat} {V:List Va} {Av:Option Addr} {cv:Nat} {d:ByteArray->Option Int}
theorem Lk2.row (h:Lk2 W1 wr X D R k n V Av cv d) {b:Nat} (hb:b<W1.heap.size):some b≠(Value.slice Av V.length cv).ownBlock:=fun he=>De
theorem Lk2.old (h:Lk2 W1 wr X D R k n V Av cv d) (hb:Below wr.heap.size wr w3) (hg:w3.grownBy w4 (Value.slice Av V.length cv).ownBlock) {b:Nat} (am:b<W1.heap.size):w4.heap[b]?=wr.heap[b]?:=by
 have h1:=h.kept.size;have h2:=hb.size;exact(hg.block b Ua (h.row am)).trans (hb.block b Ua)
theorem Lk2.map5 (h:Lk2 W1 wr X D R k n V Av cv d) (hb:Below wr.heap.size wr w3) (hg:w3.grownBy w4 (Value.slice Av V.length cv).ownBlock) (v:Value):Jz Tryz.prog 9 3 (w4.setCell ⟨X,0,none⟩ v) D n d:=
 h.map.keep1 ((heap_setCell_other _ _ _ _ (by show D≠X;exact fun e=>h.ne e.symm)).trans (h.old hb hg h.DW))
theorem Ktc {m:Nat} (h:∀s i,d s=some i->0<=i/\i<(m:Int)) (s0:ByteArray):∀s i,upd d s0 m s=some i->0<=i/\i<((m+1:Nat):Int):=fun s i hi=>by
 unfold upd at hi
 split at hi
 ·injection hi with hi;omega
 ·have:=h s i hi;omega
theorem Lk2.next {w6:World} {A6:Option Addr} {c6:Nat} {x:Va} {s0:ByteArray} (h:Lk2 W1 wr X D R k n V Av cv d) (hkR:k<R) (hx:x.name.size<=maxLen) (hb:Below wr.heap.size wr w3)
  (ho:w4.ownsRow W1.heap.size 83 4 (.slice A6 (V.length+1) c6) (V.length+1) (Xe V ++ vaC x)) (hg:w3.grownBy w4 (Value.slice Av V.length cv).ownBlock)
  (hm:Jz Tryz.prog 9 3 w6 D (n+1) (upd d s0 k)) (ue:(w4.setCell ⟨X,0,none⟩ (.slice A6 (V.length+1) c6)).grownBy w6 (some D)) :
  Lk2 W1 w6 X D R (k+1) (n+1) (V ++ [x]) A6 c6 (upd d s0 k):=by
 have hXW:=h.XW;have hDW:=h.DW;have aS:=h.ne;have hl:=h.len;have hVk:V.length=k:=Ua;have ai:(V ++ [x]).length=V.length+1:=Uh;have h1:=h.kept.size;have h2:=hb.size;have h3:=hg.size;have hXb:w6.heap[X]?=(w4.setCell ⟨X,0,none⟩ (.slice A6 (V.length+1) c6)).heap[X]?:=ue.block X Ui (by intro he;injection he with he;exact aS he);have wA:=Nb w4 X 0 (.slice Av V.length cv) (Jr (h.old hb hg hXW) h.c0);have ay:∀b,(Value.slice A6 (V.length+1) c6).ownBlock=some b->W1.heap.size<=b:=fun b hb=>(ho.lt b hb).1;refine⟨by rw [ai];omega,by have:=h.nk;omega,fun v hv=>?_,?_,?_,?_,hm,?_,?_,hXW,hDW,aS,fun o u ho hu=>Jr hXb ((J5 _ _ _ _ _ ho).trans (Jr (h.old hb hg hXW) (h.oth o u ho hu)))⟩
 ·rcases List.mem_append.1 hv with hv|hv
  ·exact h.nm v hv
  ·rw [List.mem_singleton.1 hv];exact hx
 ·rw [ai];exact Jr hXb (Nx _ _ _ wA)
 ·rw [World.frozen?_of_block (a:=⟨X,0,none⟩) hXb,World.frozen?_setCell,World.frozen?_of_block (a:=⟨X,0,none⟩) (h.old hb hg hXW)];exact h.f0
 ·rw [ai,<-Kr7];refine(J6.grown (S:=fun b=>b=D) ue fun k hk=>Df).own (fun b gr=>by have:=ay b gr;show ¬b=D;omega) ?_;exact Jbd ho hXW 0 _
 ·rw [ai,hVk];exact Ktc (by rw [<-hVk];exact h.rng) s0
 ·have k1:J6 (fun b=>b=X\/b=D) W1 w3:=h.kept.trans' (J6.bel hb);have k2:J6 (fun b=>b=X\/b=D) W1 w4:=k1.trans (J6.grown (S:=fun b=>(Value.slice Av V.length cv).ownBlock=some b) hg fun k hk=>hk) fun b gr hs=>absurd hs.symm (h.row gr);have k3:=k2.setCell (b:=X) (.inl rfl) 0 (.slice A6 (V.length+1) c6);exact k3.trans' (J6.grown ue fun b gr=>by injection gr with gr;exact .inr gr.symm)
theorem Lk2.skip (h:Lk2 W1 wr X D R k n V Av cv d) (hkR:¬k<R) (hb:Below wr.heap.size wr w3):Lk2 W1 w3 X D R (k+1) n V Av cv d:=by
 have hl:=h.len;have h1:=h.kept.size;have hXW:=h.XW;exact⟨Ua,by have:=h.nk;omega,h.nm,Ja hb h.c0,(Jf hb _ _ Ua).trans h.f0,Jy h.own hb,h.map.bel hb,h.rng,h.kept.trans' (J6.bel hb),hXW,h.DW,h.ne,fun o u ho hu=>Ja hb (h.oth o u ho hu)⟩
end
theorem Jbh.blk {w w':World} {l:List Ce} {A:Option Addr} {cap:Nat} (h:Jbh w l A cap) (hs:∀b,b<w.heap.size->w'.heap[b]?=w.heap[b]?):Jbh w' l A cap:=
 ⟨h.1,h.2.1,h.2.2.1,fun hn=>by
  obtain⟨b,off,hA,hc⟩:=h.2.2.2 hn;exact⟨b,off,hA,fun j u hj=>Jr (hs b (Nu (hc j u hj))) (hc j u hj)⟩⟩
theorem Kql (p:Pr) (a:PrA) (w:World) (hg:Ql w) (hp:Kr w p a) (aw:Ke5 p) (n1:p.ins.length<=1000000) (n2:p.outs.length<=1000000) (n3:p.locals.length<=1000000) (n4:p.eqs.length<=1000000) (hS:Ks p=(0,0,0)) (hC:¬16<(Jq p).length) :
  Calls Tryz.prog 111 #[prV p a] w (Krt w):=by
 have ah:=fun W h=>Jf8 p a W (hg.later h) (hp.later h) aw n1 n2 n3 n4;have et:Kf p=(Jq p,(0,0,0)):=by unfold Kf;rw [if_pos hS,if_neg hC]
 simp only [et] at ah;have aJ:=fun W h=>Jcv p a W (hp.later h) n1 n2 n3;obtain⟨R,hR,dj⟩:=Kq4 hS;have nb:=Kqp hS;have hL3:(Je p).length<=3000000:=Su;obtain⟨A1,c1,A2,c2,A3,c3,A4,c4⟩:=a;unfold prV fV at *;dsimp only at *;have gI:=@run_makeMap Tryz.prog;generalize Je p=L at *;generalize Jq p=cs at *;have lo:=Nf dj;have HVS:=Nf nb;have mH:maxLen=9223372036854775807\/16<=maxLen:= .inr Uo;have hm16:16<=maxLen:=Uo;clear hg hp aw hS et dj nb mH;unfold Krt
 go_enter Tryz.func111,Tryz.ntmps111
 go_wp2_with (first
  | (go_at_call 100;go_loud (refine(ah _ Jb).mono ?_;rintro r wa ⟨⟨v,rfl,ae⟩,aA⟩;obtain⟨Ac,cc,rfl,lO⟩:=Jbh.of_own ae;clear ae;have aW:=Jg aA;have bS:=Jf aA;have cN:w.heap.size+2<=wa.heap.size:=U3;have dG:=lt0 w wa;have aX:=ltA w 1 wa))
  | (go_at_call 118;go_loud (refine(aJ _ Jb).mono ?_;rintro r wb ⟨⟨A,cap,rfl,ae⟩,aH⟩;have el:=Jg aH;have mJ:=Jf aH;have dH:wa.heap.size+2<=wb.heap.size:=(by have:=aH.size;simpa using this);have cA:=lt0 w wb;have ep:=ltA w 1 wb;have cR:=Kia ae)))
 refine Jo fun W0 ag=>?_;have ax:=Nd w W0 Uz;have bE:Off (wa.heap.size+2) none W0 (fun W=>Ju W L A cap):=by rw [ag];simpa using cR
 have eU:Jaz Tryz.prog 9 W0 (wa.heap.size+1) 0 (fun _=>none):=by
  rw [ag];have h1:=(Jaz.made (P:=Tryz.prog) (k:=9) (wa.alloc (.cells #[.int .i64 0,.int .i64 0,.int .i64 0] 32)));have h2:=h1.bel aH;exact Lw
 have hcesK:∀W',(∀b,b<wa.heap.size->W'.heap[b]?=W0.heap[b]?)->Jbh W' cs Ac cc:=fun W' h=>lO.blk fun b hb=>(h b hb).trans (by rw [ag];exact(aH.block b Ud).trans ((heap_alloc_old _ _ Ud).trans (heap_alloc_old _ _ hb)));have jy:=Nf hcesK;have hccl:=lO.1;have hccm:=lO.2.1;unfold maxLen at hccm;have z0:=Nb W0 (w.heap.size+1) 0 (.slice none 0 0) Ucc;have z1:=Nb W0 (w.heap.size+1) 1 (.map none) Ucc;have z2:=Nb W0 (w.heap.size+1) 2 (.slice none 0 0) Ucc;have zf:∀o,W0.frozen? ⟨w.heap.size+1,o,none⟩=false:=fun o=>by rw [ag];exact(mJ _ _ Ud).trans ((Jf (Jc (Jc (Below.refl wa.heap.size wa) _) _) _ _ aX).trans ((bS _ _ Uh).trans Uc))
 have hzw:wa.heap.size+2<=W0.heap.size:=by rw [ag];exact dH
 have ng:=bE.here.1;have xo:=bE.here.2.1;unfold maxLen at xo;clear ag cR lO hcesK aW bS el mJ dH cA ep ah aJ aA aH
 go_loopw [27] (fun i wr=>∃(k n:Nat) (f:ByteArray->Option Value),k<=L.length/\i = .int .i64 k/\n<=k/\Hid (Jaz Tryz.prog 9 wr (wa.heap.size+1) n f)/\Hid (VaM f)/\Hid (W0.grownBy wr (some (wa.heap.size+1)))) (fun i _=>L.length-(intOf i).toNat)
 case atStart=>exact⟨0,0,_,Np,rfl,Ns _,Nf eU,Nf (fun s v h=>by cases h),Nf ⟨rfl,rfl,rfl,Ns _,fun _ _ _=>rfl⟩⟩
 case round=>
  obtain⟨k,n,f,hk,rfl,hn,hm,rE,bB⟩:=hrel;have eC:=bB.out.size;have bu:=ltA wa 1 wr
  by_cases am:k<L.length
  ·have hx:L[k]?=some L[k]:=Ng am;have aj:L[k]∈L:=Nj am;generalize L[k]=x at hx aj;have jg:Ju wr L A cap:=bE wr fun b h1 h2 _=>bB.out.block b h2 U2;obtain⟨b,off,rfl,aH,⟨d0,d1,d2,d3⟩⟩:=jg.get hx;have dT:x.name.size<=maxLen:=Nat.le_trans (HVS.out x aj) hm16;have yC:=Nf (Kta rE.out dT x.name);have ej:=hm.out;clear hx aj jg rE
   go_wp2_with (first|(at_mapUpdate;go_loud (refine Jlj rfl (.tmp 31) (.tmp 33) (.tmp 34) 239 rfl Tryz.underlying9 Tryz.underlying239 (wa.heap.size+1) n f x.name (vaV x) rfl (ej.keep1 (heap_alloc_old _ _ bu)) Ua rfl rfl dT ?_;intro w2 cI aG;have kj:=Nf cI;have kr:=Nf aG;clear cI aG)))
   go_roundw
   case rel=>exact⟨k+1,n+1,_,Ua,Uw,Ua,kj,yC,Nf (Qn bB.out (Qn (World.grownBy_alloc wr _ _) kr.out))⟩
   case measure=>simp [intOf];omega
  ·obtain rfl:k=L.length:=Ua;have aS:wa.heap.size+1≠w.heap.size+1:=Ua;have hbk:∀b,b<W0.heap.size->b≠wa.heap.size+1->wr.heap[b]?=W0.heap[b]?:=fun b h1 h2=>bB.out.block b h1 (by intro he;injection he with he;exact h2 he);have aC:=Nd w wr (Kou ax bB.out (fun b hb=>Uv) Ua);have HB:=Nf hbk;have HBW:=Nf aC;have iw:=hm.out;have ez:=bB.out;have hvam1:=rE;clear rE
   go_wp2_with fail
   refine Jo fun W1 bt=>?_;obtain⟨Wq,rfl⟩:∃Wq,Wq=wr:=⟨wr,rfl⟩;have gB:=Nd Wq W1 (by rw [bt];exact Jc (Jc (Nt) _) _)
   have hzW1:Wq.heap.size+1<W1.heap.size:=Dr
   have eb:Lk2 W1 W1 (Wq.heap.size+1) Wq.heap.size R 0 0 [] none 0 (fun _=>none):=by
    refine⟨Uh,Ns _,Uh,?_,?_,Nw,?_,(fun s i h=>by cases h),J6.refl _,hzW1,Ua,Ua,fun _ _ _ h=>h⟩
    ·exact Ve
    ·exact Ve
    ·rw [bt];exact(Jz.made Wq).alloc
   have x1:=Nb W1 (Wq.heap.size+1) 1 (.map (some Wq.heap.size)) Ve;have x2:=Nb W1 (Wq.heap.size+1) 2 (.slice Ac cs.length cc) Ve;have xf:∀o,W1.frozen? ⟨Wq.heap.size+1,o,none⟩=false:=fun o=>Ve;have hmv1:=iw.bel gB;have bh:W0.heap.size<=Wq.heap.size:=eC;have hw1z:=ltA w 1 W0;have hw1q:=ltA w 1 Wq;have zc:∀o v,W0.cell? ⟨w.heap.size+1,o,none⟩=some v->W1.cell? ⟨w.heap.size+1,o,none⟩=some v:=fun o v h=>Ja gB (Jr (a:=⟨w.heap.size+1,o,none⟩) (HB.out _ hw1z (Ne.symm aS)) h);have zg:∀o,W1.frozen? ⟨w.heap.size+1,o,none⟩=false:=fun o=>(Jf gB _ _ hw1q).trans ((World.frozen?_of_block (a:=⟨w.heap.size+1,o,none⟩) (HB.out _ hw1z (Ne.symm aS))).trans (zf o));have y0:=zc _ _ z0;have y1:=zc _ _ z1;have y2:=zc _ _ z2;have HL0:=Nf eb;have HMV:=Nf hmv1;have HBW1:=Nf gB;have HGR:=Nf ez;clear bt eb hmv1 gB ez iw bB hm bE eU ax aC hbk z0 z1 z2 zf zc
   go_loopw [41] (fun i wr=>∃(k n2:Nat) (V:List Va) (Av:Option Addr) (cv:Nat) (d:ByteArray->Option Int),k<=cs.length/\i = .int .i64 k/\Hid (Lk2 W1 wr (Wq.heap.size+1) Wq.heap.size R k n2 V Av cv d)) (fun i _=>cs.length-(intOf i).toNat)
   case atStart=>exact⟨0,0,[],none,0,_,Np,rfl,HL0⟩
   case round=>
    obtain⟨k,n2,V,Av,cv,d,hk,rfl,hlk⟩:=hrel;have hzr2:=hlk.out.kept.size;have hXW:=hlk.out.XW;have hDW:=hlk.out.DW;have hMr:=ltA wa 1 wr;have hXr:=ltA Wq 1 wr;have hDr:=lt0 Wq wr;have hw1r:=ltA w 1 wr;have gF:∀b,b<W1.heap.size->b≠Wq.heap.size+1->b≠Wq.heap.size->wr.heap[b]?=W1.heap[b]?:=fun b h1 h2 h3=>hlk.out.kept.block b h1 (by show ¬(b=Wq.heap.size+1\/b=Wq.heap.size);omega);have hmv2:Jaz Tryz.prog 9 wr (wa.heap.size+1) n f:=HMV.out.keep1 (gF _ Ua Ua Ua);have v0:=hlk.out.c0;have vf:=hlk.out.f0;have vK:=Nb wr (Wq.heap.size+1) 1 (.map (some Wq.heap.size)) (hlk.out.oth 1 _ Ua x1);have hVl:=hlk.out.len;have hVk:V.length<=k:=Ua;have eu:=hlk.out.nk
    by_cases am:k<cs.length
    ·have hx:cs[k]?=some cs[k]:=Ng am;obtain⟨qJ,hcR⟩:=lo.out k _ hx;generalize cs[k]=c at hx qJ hcR;have lO:=jy.out wr fun b hb=>(gF b Ua Ua Ua).trans ((HBW1.out.block b Ua).trans (HB.out b Ua Ua));obtain⟨bc,oc,hA,cB⟩:=lO.2.2.2 Ua;obtain⟨g0,g1,g2,g3⟩:=Jdh cs k c hx;have d0:=cB _ _ g0;have d1:=Na wr bc (oc+k * 4+1) c.ck (by rw [Nat.add_assoc];exact cB _ _ g1)
     have d2:=Nb wr bc (oc+k * 4+2) (.string c.cn) (by rw [Nat.add_assoc];exact cB _ _ g2)
     have d3:=Nb wr bc (oc+k * 4+3) (.int .i32 c.first) (by rw [Nat.add_assoc];exact cB _ _ g3)
     have fE:c.name.size<=maxLen:=Nat.le_trans qJ hm16;subst hA;obtain⟨x,gK,xm⟩:=Ktk hvam1.out c.name
     by_cases hkR:k<R
     ·have ht:c.name.toList.isEmpty=false:=hcR.2 hkR;have HGX:=Nf gK;have HMV2:=Nf hmv2;have ay:=hlk.out.own;clear hx lO cB g0 g1 g2 g3 hcR gK hmv2 gF hVl qJ
      go_wp2_with (first
       | (at_lookup;go_loud (refine Jel rfl (.tmp 51) (.tmp 53) 239 rfl Tryz.underlying9 Tryz.underlying239 (.agg #[.string ⟨#[]⟩,.int .i64 0,.int .i64 0,.string ⟨#[]⟩]) (Ktg _) (wa.heap.size+1) n f c.name rfl (HMV2.out.keep1 (heap_alloc_old _ _ hMr)) rfl fE ?_;rw [HGX.out]))
       | (at_builtin;go_loud (refine Z2 rfl (.tmp 50) (.tmp 55) 35 rfl W1.heap.size 83 _ 4 48 Tryz.underlying35 Jc8 rfl Ua (.slice Av V.length cv) V.length (Xe V) (wr.heap.size+1) 1 1 (vaC x) rfl (Js (Js ay)) rfl rfl (fun j u hj=>by rw [Kmc _ _ _ Uh];simpa [vaC] using hj) Dl Ua Ua Ud ?_;intro v6 w6 fi ue yt;obtain⟨A6,c6,rfl,-,-⟩:=Jv fi;have aM:Below wr.heap.size wr ((wr.alloc (.cells #[.string c.name,.int .i64 c.ck,.string c.cn,.int .i32 c.first] 212)).alloc (.cells #[.string x.name,.int .i64 x.type,.int .i64 x.ck,.string x.cn] 83)):=Jc (Jc (Nt) _) _;have hbX:=hlk.out.old aM ue hXW;have v0':=Nb w6 (Wq.heap.size+1) 0 (.slice Av V.length cv) (Jr hbX v0);have vf':=Nc w6 (Wq.heap.size+1) 0 ((World.frozen?_of_block (a:=⟨Wq.heap.size+1,0,none⟩) hbX).trans vf);have v1':=Nb w6 (Wq.heap.size+1) 1 (.map (some Wq.heap.size)) (Jr hbX vK);have hbY:=ue.block wr.heap.size Ud (fun he=>by have:=(ay.lt _ he.symm).2;omega);have y0':=Nb w6 wr.heap.size 0 (.string c.name) (Jr hbY Uc);have hm6:=hlk.out.map5 aM ue (.slice A6 (V.length+1) c6);have hYX:wr.heap.size≠Wq.heap.size+1:=Ua))
       | (at_mapUpdate;go_loud (refine Jau rfl (.tmp 59) (.tmp 61) (.tmp 62) 177 rfl Tryz.underlying9 Tryz.underlying177 Tryz.underlying3 Wq.heap.size n2 d c.name (k:Int) rfl hm6 Ua rfl rfl fE Ua ?_;intro w7 hm7 hg7)))
      go_roundw
      case rel=>exact⟨k+1,n2+1,V ++ [x],A6,c6,upd d c.name k,Ua,Uw,Nf (hlk.out.next hkR xm aM fi ue hm7 hg7)⟩
      case measure=>simp [intOf];omega
     ·have ht:c.name.toList.isEmpty=true:=by
       cases hh:c.name.toList.isEmpty
       ·exact absurd (hcR.1 hh) hkR
       ·exact Gp
      clear hx lO cB g0 g1 g2 g3 hcR gK hmv2 gF hVl qJ
      go_wp2_with fail
      go_roundw
      case rel=>exact⟨k+1,n2,V,Av,cv,d,Ua,Uw,Nf (hlk.out.skip hkR (Jc (Nt) _))⟩
      case measure=>simp [intOf];omega
    ·obtain rfl:k=cs.length:=Ua;have qh:=Nb wr (Wq.heap.size+1) 2 (.slice Ac cs.length cc) (hlk.out.oth 2 _ Ua x2);have hyk:=ltA w 1 W1;have cA:=gF (w.heap.size+1) hyk Ua Ua;have u0:=Nb wr (w.heap.size+1) 0 (.slice none 0 0) (Jr cA y0);have u1:=Nb wr (w.heap.size+1) 1 (.map none) (Jr cA y1);have u2:=Nb wr (w.heap.size+1) 2 (.slice none 0 0) (Jr cA y2);have uf:∀o,wr.frozen? ⟨w.heap.size+1,o,none⟩=false:=fun o=>(World.frozen?_of_block (a:=⟨w.heap.size+1,o,none⟩) cA).trans (zg o);have hV16:V.length<=16:=Ua;clear gF hmv2 hVl
     go_wp2_with fail
     refine Nv (v:= .tuple #[Kqm V Av cv Wq.heap.size Ac cs.length cc,.int .i64 0]) (by simp [results,Tryz.results111,go_sem,Kqm, *]) rfl ⟨⟨V,Av,cv,Wq.heap.size,n2,d,Ac,cs.length,cc,rfl,fun W' lE=>?_⟩,?_⟩
     ·have bF:∀b,w.heap.size<=b->b<wr.heap.size->b≠w.heap.size+1->W'.heap[b]?=wr.heap[b]?:=fun b h1 h2 h3=>(lE b h1 Lw Uh).trans ((heap_setCell_other _ _ _ _ h3).trans ((heap_setCell_other _ _ _ _ h3).trans (heap_setCell_other _ _ _ _ h3)));exact⟨(Kia hlk.out.own) W' fun b h1 h2 _=>bF b Ua h2 Ua,hlk.out.map.keep1 (bF _ Ua hDr Ua),hlk.out.rng,hlk.out.nm,hV16⟩
     ·exact Qq _ _ _ (J6.below (Jd HBW.out HBW1.out) hlk.out.kept fun k hk=>by show ¬(k=Wq.heap.size+1\/k=Wq.heap.size);omega) Ua
end Go.Proofs.YtdgjplldlfeolaaGreatDoor
