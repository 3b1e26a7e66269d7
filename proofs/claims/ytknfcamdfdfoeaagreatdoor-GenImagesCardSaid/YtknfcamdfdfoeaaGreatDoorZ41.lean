/- Lemmas. -/
import Derived.Test.YtknfcamdfdfoeaaGreatDoorMac
import Derived.Test.YtknfcamdfdfoeaaGreatDoorZ38
import Derived.Lib.SmallJoins
import Derived.Test.YtknfcamdfdfoeaaGreatDoorZ32
import Derived.Test.YtknfcamdfdfoeaaGreatDoorZ36
import Derived.Test.YtknfcamdfdfoeaaGreatDoorZ37
import Derived.Test.YtknfcamdfdfoeaaGreatDoorZ34
import Derived.Test.YtknfcamdfdfoeaaGreatDoorZ04
set_option linter.unusedVariables false
set_option linter.unusedSimpArgs false
set_option maxRecDepth 100000
set_option maxHeartbeats 64000000
namespace Go.Proofs.YtknfcamdfdfoeaaGreatDoor
open Go.RowKit Go.Sort
theorem Kav (l:List Int) (n:Nat) (jV:l.length=n) (A:Option Addr) (cap d:Nat) (x:Int) (w:World) (hb:Qc w (byU l) l.length A cap) (hl:n<=100000) (hd:1<=d) (hd8:d<=7) (h0:0<=x) (hn:x<256 ^ d) :
  Calls Tryz.prog 103 #[.slice A n cap,.int .i64 d,.int .i64 x] w fun r w'=>(∃A2 c2,r = .returned (.slice A2 (n+d) c2)/\Qc w' (byU (l ++ leB d x.toNat)) (l ++ leB d x.toNat).length A2 c2)/\Below w.heap.size w w':=by
 subst jV;have h:=Kb9 l A cap d x.toNat w hb hl hd hd8 (Int.ofNat_lt.1 (by rw [Int.toNat_of_nonneg h0,Int.natCast_pow];exact hn));rw [Int.toNat_of_nonneg h0] at h;refine h.mono ?_;rintro r w' ⟨⟨v,rfl,ae⟩,hb⟩;obtain⟨A2,c2,rfl,aY⟩:=Qc.of_own ae;exact⟨⟨A2,c2,by rw [Nk,Y4],aY⟩,hb⟩
theorem Kbi (l x:List Int) (n k:Nat) (hn:l.length=n) (hk:x.length=k) (A:Option Addr) (cap:Nat) (A2:Option Addr) (cap2:Nat) (w:World) (hb:Qc w (byU l) l.length A cap) (hx:Qc w (byU x) x.length A2 cap2) (hl:n<=100000) (dz:k<=65535) :
  Calls Tryz.prog 106 #[.slice A n cap,.slice A2 k cap2] w fun r w'=>(∃A3 c3,r = .returned (.slice A3 (n+2+k) c3)/\Qc w' (byU (l ++ Jcs x)) (l ++ Jcs x).length A3 c3)/\Below w.heap.size w w':=by
 subst hn hk;refine(Kc1 l x A cap A2 cap2 w hb hx hl dz).mono ?_;rintro r w' ⟨⟨v,rfl,ae⟩,hb⟩;obtain⟨A3,c3,rfl,aY⟩:=Qc.of_own ae;exact⟨⟨A3,c3,by unfold Jcs;rw [Nk,Nk,Y4];congr 2;omega,aY⟩,hb⟩
theorem Kbz (x:List Int):(Jcs x).length=2+x.length:=by unfold Jcs;rw [Nk,Y4]
theorem Kb6 {l:List Int} {k:Nat} {x:Int} (h:l[k]?=some x):Je9 (l.take (k+1))=Je9 (l.take k) ++ leB 4 (Xh x):=by
 rw [List.take_add_one,h];exact Kcc _ _
structure RL (w:World) (m:Im) (a:ImA) (l:List Int) (A:Option Addr) (cap:Nat) (W:World):Prop where
 bel:Below w.heap.size w W
 im:ImB W w.heap.size (imC m a)
 b:Qc W (byU l) l.length A cap
theorem RL.next {w:World} {m:Im} {a:ImA} {l l2:List Int} {A A2:Option Addr} {cap c2:Nat} {W W':World} (h:RL w m a l A cap W) (hb:Below W.heap.size W W') (h2:Qc W' (byU l2) l2.length A2 c2):RL w m a l2 A2 c2 W':=⟨Jd h.bel hb,h.im.later hb,h2⟩
theorem RL.later {w:World} {m:Im} {a:ImA} {l:List Int} {A:Option Addr} {cap:Nat} {W W':World} (h:RL w m a l A cap W) (hb:Below W.heap.size W W'):RL w m a l A cap W':=⟨Jd h.bel hb,h.im.later hb,h.b.later hb⟩
theorem Kcu (m:Im) (a:ImA) (w:World) (hm:Jd5 w m a) (aw:Jsj m) (hr:m.Right) :
  Calls Tryz.prog 70 #[imV m a] w fun r w'=>(∃A cap,r = .returned (.slice A (Jba m).length cap)/\Qc w' (byU (Jba m)) (Jba m).length A cap)/\Below w.heap.size w w':=by
 obtain⟨⟨gs1,gs2⟩,⟨go1,go2⟩,⟨gn1,gn2⟩,⟨gi1,gi2⟩,gu1,gu2⟩:=Fr.good_iff.1 hr.fr;have HM:=Nf hm;have kc:=Nf aw;have HR:=Nf hr;obtain⟨⟨v1,v2⟩,⟨v3,v4⟩,-⟩:=aw;have e1:=hr.eld;have s1:=hr.step.2.2;have s2:=hr.move.2.2;clear hm hr;obtain⟨A1,c1,A2,c2,A3,c3⟩:=a;have pM:=Lib.run_convert_bytes_const (P:=Tryz.prog) (w.alloc (.cells (imC m ⟨A1,c1,A2,c2,A3,c3⟩).toArray 43)) 98 5 #[.int .u8 77,.int .u8 73,.int .u8 68,.int .u8 83] 4 4 Tryz.underlying98 Tryz.underlying5;rw [show(w.alloc (.cells (imC m ⟨A1,c1,A2,c2,A3,c3⟩).toArray 43)).heap.size=w.heap.size+1 by simp] at pM;unfold imC at pM;unfold imV;dsimp only at *
 go_enter Tryz.func70,Tryz.ntmps70
 go_upto_region 2 with fail
 refine Jo fun W0 ag=>?_
 have sy:Hid (RL w m ⟨A1,c1,A2,c2,A3,c3⟩ [77,73,68,83] (some ⟨w.heap.size+1,0,none⟩) 4 W0):=by
  refine Nf ⟨Uo,?_,?_⟩
  ·rw [ag];exact(ImB.new w (imC m ⟨A1,c1,A2,c2,A3,c3⟩) _).later (Jc (Nt) _)
  ·exact Ufr
 have x0:=sy.out.im 0 _ rfl;have l0:([77,73,68,83]:List Int).length=4:=rfl;generalize hL0:([77,73,68,83]:List Int)=L0 at *;have HL0:=Nf hL0;clear hL0;clear ag pM
 go_upto_region 3 with (go_at_call 103;go_loud (refine(Kav _ 4 l0 _ _ 4 m.ver _ sy.out.b Ua Ua Ua v1 v2).mono ?_;rintro r W1 ⟨⟨A5,c5,rfl,aY⟩,ac⟩))
 have qT:=Nf (sy.out.next ac aY);have x1:=qT.out.im 1 _ rfl;have l1:(L0 ++ leB 4 m.ver.toNat).length=8:=by rw [Nk,Y4,l0]
 clear sy ac aY x0
 go_upto_region 4 with (go_at_call 103;go_loud (refine(Kav _ 8 l1 _ _ 4 m.fro _ qT.out.b Ua Ua Ua v3 v4).mono ?_;rintro r W2 ⟨⟨A6,c6,rfl,aY⟩,ac⟩))
 have mU:=Nf (qT.out.next ac aY);have l2:(L0 ++ leB 4 m.ver.toNat ++ leB 4 m.fro.toNat).length=12:=by rw [Nk,Y4,l1]
 have z2:=mU.out.im 2 _ rfl;have z3:=mU.out.im 3 _ rfl;have z5:=mU.out.im 5 _ rfl;have z6:=mU.out.im 6 _ rfl;have z7:=mU.out.im 7 _ rfl;clear qT ac aY x1;generalize hL2:L0 ++ leB 4 m.ver.toNat ++ leB 4 m.fro.toNat=L2 at *;have HL2:=Nf hL2;clear hL2
 have lK:∀x∈[m.eld,m.fr.s,m.fr.n,m.fr.i,m.fr.u],0<=x/\x<256:=by
  intro x hx;simp only [List.mem_cons,List.not_mem_nil,or_false] at hx;exact Ua
 go_upto_region 5 with fail
 refine Jo fun V hV=>?_;have HIV:Hid (RL w m ⟨A1,c1,A2,c2,A3,c3⟩ L2 A6 c6 V):=by rw [hV];exact Nf (mU.out.later (Jc (Nt) _))
 have HNV:Hid (ImB V W2.heap.size (inI [m.eld,m.fr.s,m.fr.n,m.fr.i,m.fr.u])):=by rw [hV];exact Nf (ImB.new _ _ _)
 have HES:=Nf lK;have ot : [m.eld,m.fr.s,m.fr.n,m.fr.i,m.fr.u].length=5:=rfl;clear hV mU z2 z3 z5 z6 z7 lK;generalize yR : [m.eld,m.fr.s,m.fr.n,m.fr.i,m.fr.u]=es at *;have HESL:=Nf yR;clear yR;generalize W2.heap.size=g at *
 go_wp2_with fail
 go_loopw [3,5] (fun v i wr=>∃(k:Nat) (A:Option Addr) (cap:Nat),k<=5/\i = .int .i64 k/\v = .slice A (12+k) cap/\Hid (RL w m ⟨A1,c1,A2,c2,A3,c3⟩ (L2 ++ (es.take k).flatMap (fun x=>leB 1 x.toNat)) A cap wr)/\Hid (ImB wr g (inI es))) (fun _ i _=>5-(intOf i).toNat)
 case atStart=>exact⟨0,_,_,Ua,rfl,rfl,Nf (by simpa using HIV.out),HNV⟩
 case round=>
  obtain⟨k,A,cap,hk,rfl,rfl,hi,jq⟩:=hrel;clear HIV HNV
  have hlk:(L2 ++ (es.take k).flatMap (fun x=>leB 1 x.toNat)).length=12+k:=by
   have:∀q:List Int,(q.flatMap (fun x=>leB 1 x.toNat)).length=q.length:=fun q=>by
    exact Ugc
   rw [Nk,this,List.length_take];omega
  by_cases am:k<5
  ·have hx:es[k]?=some es[k]:=Ng Ua;have hb:=HES.out es[k] (Nj Ua);have aP:es.take (k+1)=es.take k ++ [es[k]]:=by rw [List.take_succ_eq_append_getElem Ua]
   generalize es[k]=x at hx hb aP;have c0:=jq.out k _ (Ka8 hx)
   have qU:L2 ++ (es.take (k+1)).flatMap (fun x=>leB 1 x.toNat)=(L2 ++ (es.take k).flatMap (fun x=>leB 1 x.toNat)) ++ leB 1 x.toNat:=by
    rw [aP,List.flatMap_append,List.append_assoc];simp
   have HNX:=Nf qU;have pM:(k:Int)<5:=Ua;clear hx aP qU
   go_wp2_with (go_at_call 103;go_loud (refine(Kav _ (12+k) hlk _ _ 1 x _ hi.out.b Ua Ua Ua hb.1 hb.2).mono ?_;rintro r W3 ⟨⟨A7,c7,rfl,aY⟩,ac⟩))
   go_roundw
   case rel=>exact⟨k+1,A7,c7,Ua,Up,rfl,Nf (by rw [HNX.out];exact hi.out.next ac aY),Nf (jq.out.later ac)⟩
   case measure=>simp [intOf];omega
  ·obtain rfl:k=5:=Ua;have bP:=hi.out;rw [show es.take 5=es from List.take_of_length_le Ua] at bP hlk;have x11:=bP.im 11 _ rfl;have wK:=Nf bP;clear hi jq bP;generalize hL5:L2 ++ es.flatMap (fun x=>leB 1 x.toNat)=L5 at *;have HL5:=Nf hL5;clear hL5
   go_upto_region 10 with (go_at_call 103;go_loud (refine(Kav _ 17 hlk _ _ 2 m.sf _ wK.out.b Ua Ua Ua s1.1 Ua).mono ?_;rintro r W6 ⟨⟨A8,c8,rfl,aY⟩,ac⟩))
   have HI6:=Nf (wK.out.next ac aY);have x12:=HI6.out.im 12 _ rfl;have l6:(L5 ++ leB 2 m.sf.toNat).length=19:=by rw [Nk,Y4,hlk]
   clear wK ac aY x11
   go_upto_region 11 with (go_at_call 103;go_loud (refine(Kav _ 19 l6 _ _ 2 m.mf _ HI6.out.b Ua Ua Ua s2.1 Ua).mono ?_;rintro r W7 ⟨⟨A9,c9,rfl,aY⟩,ac⟩))
   have HI7:=Nf (HI6.out.next ac aY);have l7:(L5 ++ leB 2 m.sf.toNat ++ leB 2 m.mf.toNat).length=21:=by rw [Nk,Y4,l6]
   clear HI6 ac aY x12 l6;generalize hL7:L5 ++ leB 2 m.sf.toNat ++ leB 2 m.mf.toNat=L7 at *;have HL7:=Nf hL7;clear hL7;have gM:m.first.length<=16:=by have h1:=HR.out.old;omega
   have ak:=HM.out.first.1;have dm:=HM.out.first.2.1;unfold maxLen at dm
   go_wp2_with fail
   go_loopw [6,7] (fun v i wr=>∃(k:Nat) (A:Option Addr) (cap:Nat),k<=m.first.length/\i = .int .i64 k/\v = .slice A (4 * k) cap/\Hid (Qc wr (byU (Je9 (m.first.take k))) (Je9 (m.first.take k)).length A cap)/\Hid (RL w m ⟨A1,c1,A2,c2,A3,c3⟩ L7 A9 c9 wr)) (fun _ i _=>m.first.length-(intOf i).toNat)
   case atStart=>exact⟨0,none,0,Ua,rfl,rfl,Nf (Qc.nil _),HI7⟩
   case round=>
    obtain⟨k,A,cap,hk,rfl,rfl,aY,hi⟩:=hrel;clear HI7;have hlk2:(Je9 (m.first.take k)).length=4 * k:=by rw [Jsn,List.length_take];omega
    have x8:=hi.out.im 8 _ rfl;dsimp only at x8
    by_cases am:k<m.first.length
    ·have hx:m.first[k]?=some m.first[k]:=Ng am;have hxi:=kc.out.first m.first[k] (Nj am);generalize m.first[k]=x at hx hxi;obtain⟨b,off,rfl,aH,y0⟩:=(HM.out.first.later hi.out.bel).get (Jx3 hx);have dS:=fun W=>Kbf x W hxi;have aP:=Kb6 hx;have eZ:=Nf aP;have hpn:=Jne x;have hnum:=fun W hc=>Kav (Je9 (m.first.take k)) (4 * k) hlk2 A cap 4 ((Xh x:Nat):Int) W hc Ua Ua Ua Ua Ua;rw [Int.toNat_natCast,<-aP] at hnum;generalize Xh x=px at *;clear aP hx hxi
     go_wp2_with (first
      | (go_at_call 104;refine(dS _).mono ?_;rintro r w1 ⟨rfl,rfl⟩)
      | (go_at_call 103;go_loud (refine(hnum _ aY.out).mono ?_;rintro r W3 ⟨⟨A7,c7,rfl,hat3⟩,ac⟩)))
     go_roundw
     case rel=>exact⟨k+1,A7,c7,Ua,Up,by first|rfl|(congr 1;omega),Nf hat3,Nf (hi.out.later ac)⟩
     case measure=>simp [intOf];omega
    ·obtain rfl:k=m.first.length:=Ua;have hf:=aY.out;rw [List.take_of_length_le (Ns _)] at hf hlk2;have x9:=hi.out.im 9 _ rfl;dsimp only at x9;have dF:=HR.out.step.1;have tX:=HR.out.move.1;have cP:=Jit m.step;have hmo:=Jit m.move;clear aY
     go_upto_region 17 with (go_at_call 105;go_loud (refine(Ka9 m.step A2 c2 _ (HM.out.step.later hi.out.bel) dF HR.out.step.2.1 kc.out.step).mono ?_;rintro r Wc ⟨⟨v,rfl,ae⟩,bU⟩;obtain⟨Ac,cc,rfl,yV⟩:=Qc.of_own ae))
     have HIc:=Nf (hi.out.later bU);have eB:=hf.later bU;have x10:=HIc.out.im 10 _ rfl;dsimp only at x10;clear ae x8 x9 hf
     go_upto_region 18 with (go_at_call 105;go_loud (refine(Ka9 m.move A3 c3 _ (HM.out.move.later HIc.out.bel) tX HR.out.move.2.1 kc.out.move).mono ?_;rintro r Wd ⟨⟨v,rfl,ae⟩,ct⟩;obtain⟨Ad,cd,rfl,yZ⟩:=Qc.of_own ae))
     have HId:=Nf (HIc.out.later ct);have HF:=Nf (eB.later ct);have HC:=Nf (yV.later ct);have HD:=Nf yZ;have fF:(L7 ++ Jcs (Je9 m.first)).length=21+2+4 * m.first.length:=by rw [Nk,Kbz,l7,hlk2];omega
     have fa:(L7 ++ Jcs (Je9 m.first) ++ Jcs (Ja7 m.step)).length=21+2+4 * m.first.length+2+(Ja7 m.step).length:=by rw [Nk,Kbz,fF];omega
     have bH:L7 ++ Jcs (Je9 m.first) ++ Jcs (Ja7 m.step) ++ Jcs (Ja7 m.move)=Jba m:=by
      unfold Jba Ju8;rw [<-HL7.out,<-HL5.out,<-HESL.out,<-HL2.out,<-HL0.out];simp [List.append_assoc]
     have ij:=Kcq m;have c1':=HF.out;rw [hlk2] at c1';have k1:=fun W=>Kbi L7 (Je9 m.first) 21 (4 * m.first.length) l7 hlk2 A9 c9 A cap W;have k2:=fun A3 c3 W=>Kbi (L7 ++ Jcs (Je9 m.first)) (Ja7 m.step) (21+2+4 * m.first.length) (Ja7 m.step).length fF rfl A3 c3 Ac cc W;have k3:=fun A3 c3 W=>Kbi (L7 ++ Jcs (Je9 m.first) ++ Jcs (Ja7 m.step)) (Ja7 m.move) (21+2+4 * m.first.length+2+(Ja7 m.step).length) (Ja7 m.move).length fa rfl A3 c3 Ad cd W;rw [bH] at k3;have K1:=Nf k1;have K2:=Nf k2;have K3:=Nf k3;have HFIN:=Nf ij;generalize (Ja7 m.step).length=ns at *;generalize (Ja7 m.move).length=nm at *;clear ae yZ yV eB bU ct x10 HIc hi k1 k2 k3 bH ij fF fa l7 hlk2 c1'
     go_wp2_with (first
      | (have hg:=yM;go_at_call 106;go_loud (refine(K3.out _ _ _ hat6 (HD.out.later (Jd da yM)) Ua Ua).mono ?_;rintro r W9 ⟨⟨A7,c7,rfl,hat7⟩,hb7⟩))
      | (have hg:=da;go_at_call 106;go_loud (refine(K2.out _ _ _ hat5 (HC.out.later da) Ua Ua).mono ?_;rintro r W8 ⟨⟨A6,c6,rfl,hat6⟩,yM⟩))
      | (go_at_call 106;go_loud (refine(K1.out _ HId.out.b HF.out Ua Ua).mono ?_;rintro r W7 ⟨⟨A5,c5,rfl,hat5⟩,da⟩)))
     go_ret;exact⟨⟨A7,c7,by rw [show(Jba m).length=21+2+4 * m.first.length+2+ns+2+nm by have:=HFIN.out;omega];rfl,hat7⟩,Jd (Jd (Jd HId.out.bel da) yM) hb7⟩
theorem Kbo (m:Im) (a:ImA) (w:World) (hm:Jd5 w m a) (aw:Jsj m) (hw:m.wrong=0) :
  Calls Tryz.prog 39 #[imV m a] w fun r w'=>(∃A cap,r = .returned (.tuple #[.slice A (Jdl m).1.length cap,.int .i64 (Jdl m).2]))/\Below w.heap.size w w':=by
 have aN:=fun W (h:Below w.heap.size w W)=>Kbr m a W (hm.later h) aw hw;have hl:=fun W (h:Below w.heap.size w W)=>Kcu m a W (hm.later h) aw (Im.right hw)
 by_cases hb:2016<(Jba m).length
 ·have hv:Jdl m=([],3):=by unfold Jdl;rw [if_neg (fun h=>h hw),if_pos hb]
  have tb:(2016:Int)<((Jba m).length:Int):=Ua;rw [hv];obtain⟨A1,c1,A2,c2,A3,c3⟩:=a;unfold imV at *;dsimp only at *;generalize (Jba m).length=n at *;clear hm aw hw hb hv
  go_enter Tryz.func39,Tryz.ntmps39
  go_wp2_with (first
   | (go_at_call 69;go_loud (refine(aN _ Jb).mono ?_;rintro r w1 ⟨rfl,ac⟩;have k0:=Jg ac))
   | (go_at_call 70;go_loud (refine(hl _ Jb).mono ?_;rintro r w2 ⟨⟨A,cap,rfl,-⟩,aq⟩)))
  go_ret2
  exact⟨⟨none,0,rfl⟩,Jb⟩
 ·have hv:Jdl m=(Jba m,0):=by unfold Jdl;rw [if_neg (fun h=>h hw),if_neg hb]
  have tb:¬(2016:Int)<((Jba m).length:Int):=Ua;rw [hv];obtain⟨A1,c1,A2,c2,A3,c3⟩:=a;unfold imV at *;dsimp only at *;generalize (Jba m).length=n at *;clear hm aw hw hb hv
  go_enter Tryz.func39,Tryz.ntmps39
  go_wp2_with (first
   | (go_at_call 69;go_loud (refine(aN _ Jb).mono ?_;rintro r w1 ⟨rfl,ac⟩;have k0:=Jg ac))
   | (go_at_call 70;go_loud (refine(hl _ Jb).mono ?_;rintro r w2 ⟨⟨A,cap,rfl,-⟩,aq⟩)))
  go_ret2
  exact⟨⟨A,cap,rfl⟩,Jb⟩
end Go.Proofs.YtknfcamdfdfoeaaGreatDoor
namespace Go.Proofs.YtknfcamdfdfoeaaGreatDoor
open Go.RowKit Go.Sort Go.Maps Go.ChangeMaps Go.WideMaps
def frT (x:Int×Int×Int×Int×Int):Value:= .agg #[.int .i64 x.1,.int .i64 x.2.1,.int .i64 x.2.2.1,.int .i64 x.2.2.2.1,.int .i64 x.2.2.2.2]
theorem Jbb {p:Pr} (h:(Kf p).2=(0,0,0)):Ks p=(0,0,0)/\¬16<(Jq p).length:=by
 unfold Kf at h
 by_cases hs:Ks p=(0,0,0)
 ·rw [if_pos hs] at h;refine⟨hs,fun hb=>?_⟩;rw [if_pos hb] at h;exact absurd (show((4:Int),(0:Int),(3:Int))=(0,0,0) from h) Ux
 ·rw [if_neg hs] at h;exact absurd h hs
theorem Jof (p:Pr) (a:PrA) (w:World) (hg:Ql w) (hp:Kr w p a) (aw:Q4 p) (n1:p.ins.length<=1000000) (n2:p.outs.length<=1000000) (n3:p.locals.length<=1000000) (n4:p.eqs.length<=1000000) :
  Calls Tryz.prog 8 #[prV p a] w fun r w'=>(∃A cap,r = .returned (.tuple #[.slice A (Xg p).1.length cap,frT (Xg p).2.1,fV (Xg p).2.2])/\J3 w' (Xg p).1 A cap/\∀b off,A=some ⟨b,off,none⟩->w.heap.size<=b)/\Below w.heap.size w w':=by
 by_cases h:(Kf p).2=(0,0,0)
 ·obtain⟨hS,hb⟩:=Jbb h;refine(Jo3 p a w hg hp aw n1 n2 n3 n4 hS hb).mono ?_;rintro r w' ⟨hc,ab⟩;refine⟨?_,ab⟩;unfold Xg;rw [if_pos h]
  by_cases h6:600<(Xs p).length
  ·rw [if_pos h6] at hc;rw [if_pos h6];exact⟨none,0,hc,Jar _,fun b off h=>by cases h⟩
  ·rw [if_neg h6] at hc;rw [if_neg h6];obtain⟨v,hr,ae⟩:=hc;obtain⟨A,cap,rfl,aY⟩:=J3.of_own ae;exact⟨A,cap,hr,aY,fun b off h=>(ae.lt b Sl).1⟩
 ·refine(Jrb p a w hg hp aw n1 n2 n3 n4 h).mono ?_;rintro r w' ⟨hr,ab⟩;refine⟨?_,ab⟩;unfold Xg;rw [if_neg h];exact⟨none,0,hr,Jar _,fun b off h=>by cases h⟩
theorem Jos (m:Im) (a:ImA) (w:World) (hm:Jd5 w m a) (aw:Jsj m) :
  Calls Tryz.prog 36 #[imV m a] w fun r w'=>(∃A cap,r = .returned (.tuple #[.slice A (Jdl m).1.length cap,.int .i64 (Jdl m).2]))/\Below w.heap.size w w':=by
 have aN:=fun W (h:Below w.heap.size w W)=>Jqe m a W (hm.later h) aw
 by_cases hw:m.wrong=0
 ·have hl:=fun W (h:Below w.heap.size w W)=>Juu m a W (hm.later h) aw (Im.right hw);rw [hw] at aN
  by_cases hb:2016<(Jba m).length
  ·have hv:Jdl m=([],3):=by unfold Jdl;rw [if_neg (fun h=>h hw),if_pos hb]
   have tb:(2016:Int)<((Jba m).length:Int):=Ua;rw [hv];obtain⟨A1,c1,A2,c2,A3,c3⟩:=a;unfold imV at *;dsimp only at *;generalize (Jba m).length=n at *;clear hm aw hw hb hv
   go_enter Tryz.func36,Tryz.ntmps36
   go_wp2_with (first
    | (go_at_call 61;go_loud (refine(aN _ Jb).mono ?_;rintro r w1 ⟨rfl,ac⟩;have k0:=Jg ac))
    | (go_at_call 62;go_loud (refine(hl _ Jb).mono ?_;rintro r w2 ⟨⟨A,cap,rfl,-⟩,aq⟩)))
   go_ret2
   exact⟨⟨none,0,rfl⟩,Jb⟩
  ·have hv:Jdl m=(Jba m,0):=by unfold Jdl;rw [if_neg (fun h=>h hw),if_neg hb]
   have tb:¬(2016:Int)<((Jba m).length:Int):=Ua;rw [hv];obtain⟨A1,c1,A2,c2,A3,c3⟩:=a;unfold imV at *;dsimp only at *;generalize (Jba m).length=n at *;clear hm aw hw hb hv
   go_enter Tryz.func36,Tryz.ntmps36
   go_wp2_with (first
    | (go_at_call 61;go_loud (refine(aN _ Jb).mono ?_;rintro r w1 ⟨rfl,ac⟩;have k0:=Jg ac))
    | (go_at_call 62;go_loud (refine(hl _ Jb).mono ?_;rintro r w2 ⟨⟨A,cap,rfl,-⟩,aq⟩)))
   go_ret2
   exact⟨⟨A,cap,rfl⟩,Jb⟩
 ·have hv:Jdl m=([],m.wrong):=by unfold Jdl;rw [if_pos hw]
  have tw:(m.wrong != 0)=true:=by simpa using hw
  rw [hv];obtain⟨A1,c1,A2,c2,A3,c3⟩:=a;unfold imV at *;dsimp only at *;generalize m.wrong=e at *;clear hm aw hw hv
  go_enter Tryz.func36,Tryz.ntmps36
  go_wp2_with (go_at_call 61;go_loud (refine(aN _ Jb).mono ?_;rintro r w1 ⟨rfl,ac⟩))
  go_ret2
  exact⟨⟨none,0,rfl⟩,Jb⟩
end Go.Proofs.YtknfcamdfdfoeaaGreatDoor
namespace Go.Proofs.YtknfcamdfdfoeaaGreatDoor
open Go.RowKit
def Kt (c:List (Int×Int)):Prop:=∀i∈c,I32 i.2
theorem Kt.app {a b:List (Int×Int)} (ha:Kt a) (hb:Kt b):Kt (a ++ b):=fun i hi=>by
 rcases List.mem_append.1 hi with h|h
 ·exact ha i h
 ·exact hb i h
theorem Kt.nil:Kt []:=fun i hi=>by cases hi
theorem Kt.cons {op n:Int} {l:List (Int×Int)} (h:I32 n) (hl:Kt l):Kt ((op,n) :: l):=fun i hi=>by
 rcases List.mem_cons.1 hi with rfl|hi
 ·exact h
 ·exact hl i hi
theorem Jey {n:Nat} (h:n<=1000000):I32 (n:Int):=Vh
section
variable {sl:ByteArray->Int} {fl:Int×ByteArray->Int}
theorem Kt.choice {v a b:List (Int×Int)} (hv:Kt v) (ha:Kt a) (hb:Kt b) (la:a.length<=100000) (lb:b.length<=100000):Kt (Yv v a b):=by
 unfold Yv;exact(((hv.app (Kt.cons Vh Kt.nil)).app ha).app (Kt.cons Vh Kt.nil)).app hb
theorem Jyx (dF:∀s,I32 (sl s)) (gM:∀c,I32 (fl c)) (e:Ex):e.OK->e.size<=120->∀c,Kt (e.gen sl fl c):=by
 induction e using Ex.ind with
 | h e ih=>
  intro ho hz c;have hn:I32 e.n:=by cases e;simp only [Ex.OK] at ho;exact ho.2.1
  have hp:∀j,Kt ((Ex.genL sl fl e.kind e.name c 0 e.sub).getD j [])/\((Ex.genL sl fl e.kind e.name c 0 e.sub).getD j []).length<=100000:=by
   intro j
   by_cases hj:j<e.sub.length
   ·have hx:e.sub[j]?=some e.sub[j]:=Ng hj;have hm:e.sub[j]∈e.sub:=Nj hj;generalize e.sub[j]=x at hx hm;have h2:=Ex.size_sub hx;rw [Ex.genL_get sl fl e.kind e.name c e.sub 0 j x hx];have h4:=Ex.gen_len sl fl x (K4 e.kind e.name c (0+j));exact⟨ih x hm (Ex.OK_sub ho hm) Ua _,Ua⟩
   ·have:(Ex.genL sl fl e.kind e.name c 0 e.sub).getD j [] = []:=by
     rw [List.getD_eq_getElem?_getD,List.getElem?_eq_none (by rw [Ex.genL_len];omega)];rfl
    rw [this];exact⟨Kt.nil,Ul⟩
  rw [Ex.gen_eq];generalize Ex.genL sl fl e.kind e.name c 0 e.sub=ps at hp;unfold Jae;have one:∀(op n:Int),I32 n->Kt [(op,n)]:=fun op n h=>Kt.cons h Kt.nil
  split
  ·exact one _ _ (dF _)
  split
  ·exact(hp 0).1.app (one _ _ hn)
  split
  ·exact((hp 0).1.app (hp 1).1).app (one _ _ hn)
  split
  ·exact(hp 0).1.choice (hp 1).1 (hp 2).1 (hp 1).2 (hp 2).2
  split
  ·exact(one _ _ (gM c)).choice (hp 1).1 (hp 0).1 (hp 1).2 (hp 0).2
  split
  ·exact(hp 0).1
  split
  ·exact(one _ _ (dF _)).choice (hp 0).1 (hp 1).1 (hp 0).2 (hp 1).2
  ·exact one _ _ hn
theorem Kt.under (dF:∀s,I32 (sl s)) {c:Int×ByteArray} {x:List (Int×Int)} (hx:Kt x) (lx:x.length<=100000):Kt (Qk sl c x):=by
 unfold Qk;have hl:I32 (x.length:Int):=Jey Ua
 split
 ·exact(Kt.cons (dF _) (Kt.cons hl Kt.nil)).app hx
 ·split
  ·exact(Kt.cons (dF _) (Kt.cons Vh (Kt.cons hl Kt.nil))).app hx
  ·exact hx
theorem Jq8 (dF:∀s,I32 (sl s)):∀(l:List Va) (i:Nat),i+l.length<=100000->Kt (Yh sl i l)
 | [],i,_=>Kt.nil
 | v :: r,i,h=>by
  rw [Nl] at h;rw [Yh];exact(Kt.cons (Jey Ua) (Kt.cons (dF _) Kt.nil)).app (Jq8 dF r (i+1) Ua)
theorem Jro (dF:∀s,I32 (sl s)):∀(l:List Qe) (i:Nat),i+l.length<=100000->Kt (Zx sl i l)
 | [],i,_=>Kt.nil
 | v :: r,i,h=>by
  rw [Nl] at h;rw [Zx];exact(Kt.cons (Jey Ua) (Kt.cons (dF _) Kt.nil)).app (Jro dF r (i+1) Ua)
theorem Jri (dF:∀s,I32 (sl s)):∀(l:List Va) (i:Nat),i+l.length<=100000->Kt (Xl sl i l)
 | [],i,_=>Kt.nil
 | v :: r,i,h=>by
  rw [Nl] at h;rw [Xl];exact(Kt.cons (dF _) (Kt.cons (Jey Ua) Kt.nil)).app (Jri dF r (i+1) Ua)
theorem Jrj (dF:∀s,I32 (sl s)):∀(l:List Ce) (i:Nat),i+l.length<=100000->Kt (Ze sl i l)
 | [],i,_=>Kt.nil
 | v :: r,i,h=>by
  rw [Nl] at h;rw [Ze];exact(Kt.under dF (Kt.cons Vh (Kt.cons (Jey Ua) Kt.nil)) Ul).app (Jrj dF r (i+1) Ua)
theorem Jrf {L:List Va} (dF:∀s,I32 (sl s)):∀(l:List Qe) (i:Nat),(∀q∈l,∀c,Kt (q.e.gen sl fl c)/\(q.e.gen sl fl c).length<=360)->i+l.length<=100000->Kt (Zu sl fl L i l)
 | [],i,_,_=>Kt.nil
 | q :: r,i,hq,h=>by
  rw [Nl] at h;rw [Zu];obtain⟨g1,g2⟩:=hq q Ul (J9 L q.name);exact(Kt.under dF (g1.app (Kt.cons (Jey Ua) Kt.nil)) Uj).app (Jrf dF r (i+1) (fun x hx=>hq x Fz) Ua)
theorem Jrd {L:List Va} {eqs:List Qe} (dF:∀s,I32 (sl s)) (hq:∀q∈eqs,∀c,Kt (q.e.gen sl fl c)/\(q.e.gen sl fl c).length<=360):∀l:List Int,Kt (Xd sl fl L eqs l)
 | []=>Kt.nil
 | j :: r=>by
  rw [Xd];refine Kt.app ?_ (Jrd dF hq r)
  cases hx:eqs[j.toNat]? with
  | none=>exact Kt.nil
  | some q=>
   obtain⟨g1,g2⟩:=hq q (Ni hx) (J9 L q.name);exact Kt.under dF (g1.app (Kt.cons (dF _) Kt.nil)) Uj
end
theorem Jwf (L:List Va) (hl:L.length<=100000) (s:ByteArray):I32 (Xu L s):=by
 rcases Nat.eq_zero_or_pos L.length with h|h
 ·have:L = []:=List.eq_nil_of_length_eq_zero h;subst this;have:Xu [] s=0:=rfl;rw [this];unfold I32;omega
 ·have:=Jtl L s h;exact Vh
theorem Jwd (l:List Ce) (hl:l.length<=100000) (d:Int×ByteArray):I32 (Kg l d):=by
 rcases Jf3 d l 0 with h|h
 ·unfold Kg;rw [h];unfold I32;omega
 ·unfold Kg I32;omega
theorem Jvr {p:Pr} (h:Jay p) (aw:Q4 p) (hb:¬16<(Jq p).length):∀i∈Xs p,I32 i.2:=by
 have jN:=h.small;have dF:=Jwf (Je p) Ua;have gM:=Jwd (Jq p) Ua
 have hq:∀q∈p.eqs,∀c,Kt (q.e.gen (Xu (Je p)) (Kg (Jq p)) c)/\(q.e.gen (Xu (Je p)) (Kg (Jq p)) c).length<=360:=fun q hq c=>
  ⟨Jyx dF gM q.e (aw.eqs q hq).2.2.2 (h.eqs q hq).size c,h.codes q hq _ _ _⟩
 have ek:=Ja4 p.eqs;unfold Xs;exact(((((Jq8 dF p.ins 0 Ua).app (Jro dF (J0 p.eqs) 0 Ua)).app (Jrd dF hq (J1 p).1)).app (Jrf dF (J0 p.eqs) 0 (fun q hd=>hq q (Z4 hd).1) Ua)).app (Jrj dF _ _ (by rw [List.length_drop];omega))).app (Jri dF p.outs 0 Ua)
theorem Jy1 {e:Ex} (h:e.OK):I32 (Jai e):=by
 unfold Jai
 split
 ·exact Jvc _
 ·cases e;simp only [Ex.OK] at h;exact h.2.1
theorem Jt7 {p:Pr} (aw:Q4 p):∀x∈(Jq p).map (·.first),I32 x:=by
 intro x hx;obtain⟨c,hc,rfl⟩:=List.mem_map.1 hx;unfold Jq at hc
 rcases List.mem_append.1 hc with hc|hc
 ·obtain⟨q,hq,rfl⟩:=List.mem_map.1 hc;exact Jy1 (aw.eqs q (Z4 hq).1).2.2.1
 ·unfold Kaq at hc;obtain⟨d,_,rfl⟩:=List.mem_map.1 hc;show I32 0;unfold I32;omega
end Go.Proofs.YtknfcamdfdfoeaaGreatDoor
