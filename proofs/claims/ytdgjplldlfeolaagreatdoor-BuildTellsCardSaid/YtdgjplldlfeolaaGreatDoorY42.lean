/- Lemmas. -/
import Derived.Test.YtdgjplldlfeolaaGreatDoorMac
import Derived.Test.YtdgjplldlfeolaaGreatDoorY41
import Derived.Deep.CutRange
import Derived.RegionTactic
set_option linter.unusedVariables false
set_option linter.unusedSimpArgs false
set_option maxRecDepth 100000
set_option maxHeartbeats 64000000
namespace Go.Proofs.YtdgjplldlfeolaaGreatDoor
open Go.RowKit Go.Sort
def Kto (w:World) (r:Ending) (w':World):Prop:=
 ((∃f:Int×Int×Int,r = .returned (.tuple #[.slice none 0 0,fV f])/\f.2.2≠0)\/
  ∃(v:Value) (c:List (Int×Int)),r = .returned (.tuple #[v,fV (0,0,0)])/\w'.ownsRow w.heap.size 122 2 v c.length (cdC c)/\c.length<=600/\∀i∈c,I32 i.2)/\Below w.heap.size w w'
structure Ktv (W1 wr:World) (k:Nat) (l:List (Int×Int)) (v:Value):Prop where
 own:wr.ownsRow W1.heap.size 122 2 v l.length (cdC l)
 len:l.length<=k * 2000
 i32:∀i∈l,I32 i.2
 bel:Below W1.heap.size W1 wr
theorem Ksz {e:Ex} (h:e.right=0):e.formed=true/\e.size<=120:=by
 obtain⟨h1,-,h3⟩:=Ex.right_zero.1 h;have:=Ex.count_size e 121 Ua;exact⟨h3,Ua⟩
theorem Krh (l:List (ByteArray×Ex)) (A:Option Addr) (cap:Nat) (p q:Pr) (a b:PrA) (w:World) (hl:Ko2 w l A cap) (hl5:l.length<=5000) (hr:∀x∈l,x.2.right=0/\x.2.OK/\x.1.size<=4096) (hg:Ql w) (hp:Kr w p a) (hq:Kr w q b) (fp:J1 p) (fq:J1 q) :
  Calls Tryz.prog 55 #[.slice A l.length cap,prV p a,prV q b] w (Kto w):=by
 have hboth:∀W,Below w.heap.size w W->Calls Tryz.prog 91 #[.slice A l.length cap,prV p a,prV q b] W fun r w'=>(∃(P:Option Addr) (f1 f2 f3:Int),r = .returned (.tuple #[.pointer P,.agg #[.int .i64 f1,.int .i64 f2,.int .i64 f3]])/\Hid ((P=none/\f3≠0)\/
   ∃X V1 A1 c1 D1 n1 d1 V2 A2 c2 D2 n2 d2 b3 n3 fs,P=some ⟨X,0,none⟩/\f1=0/\f2=0/\f3=0/\Ko8 w' X V1 A1 c1 D1 n1 d1 V2 A2 c2 D2 n2 d2 b3/\Ko3 Tryz.prog 9 w' b3 n3 fs/\StM w' fs/\V1.length<=16))/\Below W.heap.size W w':=fun W h=>
  (Yp l A cap p q a b W (hl.later h) hl5 hr (hg.later h) (hp.later h) (hq.later h) fp fq).mono fun r w' iE=>by
   obtain⟨⟨f,h1,h2⟩|⟨X,V1,A1,c1,D1,n1,d1,V2,A2,c2,D2,n2,d2,b3,n3,fs,h1,h2,h3,h4,h5⟩,hb⟩:=iE
   ·exact⟨⟨none,f.1,f.2.1,f.2.2,h1,Nf (.inl ⟨rfl,h2⟩)⟩,hb⟩
   ·exact⟨⟨_,0,0,0,h1,Nf (.inr ⟨X,V1,A1,c1,D1,n1,d1,V2,A2,c2,D2,n2,d2,b3,n3,fs,rfl,rfl,rfl,rfl,h2,h3,h4,h5⟩)⟩,hb⟩
 have hpok:=fp.ok;obtain⟨A1,c1,A2,c2,A3,c3,A4,c4⟩:=a;obtain⟨B1,e1,B2,e2,B3,e3,B4,e4⟩:=b;unfold prV at *;dsimp only at *;have HB:=Nf hboth;clear hboth hl hr hg hp hq fp fq hpok
 go_enter Tryz.func55,Tryz.ntmps55
 go_upto_region 2 with (go_at_call 91;go_loud (refine(HB.out _ Jb).mono ?_;rintro r w1 ⟨⟨P,f1,f2,f3,rfl,iE⟩,ac⟩;have af:=ac.size;(try simp at af);have ak:=Jg ac))
 refine Jo fun W1 bt=>?_;have fk:=Nd w1 W1 Fz;have dZ:=Nd w W1 (Jd (Jd (by exact Jb) ac) fk);have g0:=Na W1 w1.heap.size 0 f1 Ve;have g1:=Na W1 w1.heap.size 1 f2 Ve;have g2:=Na W1 w1.heap.size 2 f3 Ve;have z0:=Na W1 (w.heap.size+1+1) 0 0 (Ja fk (Ja ac Uc));have z1:=Na W1 (w.heap.size+1+1) 1 0 (Ja fk (Ja ac Uc));have z2:=Na W1 (w.heap.size+1+1) 2 0 (Ja fk (Ja ac Uc));have zf:∀o,W1.frozen? ⟨w.heap.size+1+1,o,none⟩=false:=fun o=>(Jf fk _ _ (by show w.heap.size+1+1<w1.heap.size;omega)).trans ((Jf ac _ _ Uh).trans Uc);have io:w1.heap.size<W1.heap.size:=Dr;have yf:w.heap.size+1+1<W1.heap.size:=Ua;have hz1':w.heap.size+1+1<w1.heap.size:=Ua;have hres':Hid ((P=none/\f3≠0)\/∃X V1 A1 c1 D1 n1 d1 V2 A2 c2 D2 n2 d2 b3 n3 fs,P=some ⟨X,0,none⟩/\f1=0/\f2=0/\f3=0/\Ko8 W1 X V1 A1 c1 D1 n1 d1 V2 A2 c2 D2 n2 d2 b3/\Ko3 Tryz.prog 9 W1 b3 n3 fs/\StM W1 fs/\V1.length<=16):=Nf (iE.out.imp id fun⟨X,V1,A1,c1,D1,n1,d1,V2,A2,c2,D2,n2,d2,b3,n3,fs,h1,h2,h3,h4,h5,h6,h7,h8⟩=>⟨X,V1,A1,c1,D1,n1,d1,V2,A2,c2,D2,n2,d2,b3,n3,fs,h1,h2,h3,h4,h5.later fk,h6.bel fk,h7.later fk,h8⟩);have HBW:=Nf dZ;clear bt fk dZ ak ac HB af iE;obtain⟨rfl,aS⟩|⟨X,V1,A1,c1,D1,n1,d1,V2,A2,c2,D2,n2,d2,b3,n3,fs,rfl,rfl,rfl,rfl,hpa,hm,cP,h16⟩:=hres'.out
 ·clear hres'
  go_upto_region 3 with (fail)
  go_region
  all_goals
   go_wp2_with fail
   refine Nv (v:= .tuple #[.slice none 0 0,fV (f1,f2,f3)]) My rfl ⟨.inl ⟨(f1,f2,f3),rfl,aS⟩,Qq _ _ _ (Jh HBW.out) Ua⟩
 ·have xP:=Nu hpa.e0;have e0:=hpa.e0;have fC:=hpa.s1.vars;have ng:=fC.1;have xo:=fC.2.1;unfold maxLen at xo;have HPA:=Nf hpa;have HM:=Nf hm;have cJ:=Nf cP;have ku:=Nf fC;have HNM:=Nf hpa.s1.names;clear hres' hpa hm cP fC
  go_wp2_with fail
  go_loopw [10,33] (fun o i wr=>∃(k:Nat) (l:List (Int×Int)) (A6:Option Addr) (c6:Nat),k<=V1.length/\i = .int .i64 k/\o = .slice A6 l.length c6/\Hid (Ktv W1 wr k l (.slice A6 l.length c6))) (fun _ i _=>V1.length-(intOf i).toNat)
  case atStart=>exact⟨0,[],none,0,Np,rfl,rfl,Nf ⟨Nw,Uh,Uh,Nt⟩⟩
  case round=>
   obtain⟨k,l,A6,c6,hk,rfl,rfl,aY⟩:=hrel;have rq:=aY.out.bel;have bu:=rq.size;have nn:=aY.out.len;have r0:=Ja rq e0;have hXr:X<wr.heap.size:=Ua
   by_cases am:k<V1.length
   ·have hki:(k:Int)<(V1.length:Int):=Ua;have hx:V1[k]?=some V1[k]:=Ng am;have aL:=HNM.out V1[k] (Nj am);generalize V1[k]=x at hx aL;obtain⟨b,off,hA,aH,⟨d0,d1',d2',d3⟩⟩:=(ku.out.later rq).get hx;subst hA
    go_upto_region 8 with (fail)
    refine Jo fun V hV=>?_;have bK:=Nd wr V S9;have p0:=Nb V wr.heap.size 0 (.string x.name) Uj;have p1:=Na V wr.heap.size 1 x.type Uj;have p2:=Na V wr.heap.size 2 x.ck Uj;have p3:=Nb V wr.heap.size 3 (.string x.cn) Uj;have mQ:V.heap.size=wr.heap.size+1:=Mj;have hb1V:=Jd rq bK;have hpV:=HPA.out.later hb1V;have hmV:=HM.out.bel hb1V;have hsV:=cJ.out.later hb1V;have e6:=hpV.e6;have kM:X<V.heap.size:=Ua;have hrV:=lt0 wr V;clear mQ;obtain⟨y,Ay,cy,hyv,wB⟩:=Kq8 hsV x.name;obtain⟨q,hq⟩:∃q,(fs x.name).isSome=q:=⟨_,rfl⟩;rw [hq] at wB;have yS:=fun W (hb:Below V.heap.size V W)=>Kqi (w:=W) (t:=181) Tryz.underlying9 Tryz.underlying181 (Kse W) (hmV.bel hb) aL hyv hq;have hlm1:=yS V.drew (Jh (Nt));have hlm2:=yS (V.alloc (.cells #[.string ⟨#[]⟩,.int .i64 0,.int .i32 0,.string ⟨#[]⟩,.slice none 0 0] 173)).drew (Jh (Jc (Nt) _));have zc:=Nf hpV;have HYQ:=Nf wB;have HBV:=Nf hb1V;have HN:=Nf aL;have ae:=Jy aY.out.own bK;have HOWN:=Nf ae;have HI:=Nf aY.out.i32;clear yS hmV hsV hpV wB hyv hq hV hb1V bK rq ae hx d0 d1' d2' d3 r0 aY
    go_cut [13,14] from 38 to 47 (fun s13 s14 wx=>s14 = .bool q/\s13 = .pointer (some ⟨V.heap.size,0,none⟩)/\Hid (Below V.heap.size V wx/\V.heap.size<wx.heap.size/\wx.cell? ⟨V.heap.size,1,none⟩=some (.int .i64 y.2.kind)/\wx.cell? ⟨V.heap.size,2,none⟩=some (.int .i32 y.2.n)/\wx.cell? ⟨V.heap.size,3,none⟩=some (.string y.2.name)/\wx.cell? ⟨V.heap.size,4,none⟩=some (.slice Ay y.2.sub.length cy)))
    case first=>
     go_region
     all_goals
      go_wp2_with fail
      go_meet
      exact⟨rfl,rfl,Nf ⟨F3,Uh,Uc,Uc,Uc,Uc⟩⟩
    case rest=>
     obtain⟨rfl,rfl,hcu⟩:=hcut;obtain⟨bU,iG,c1',c2',c3',c4'⟩:=hcu.out;have t0:=Ja bU p0;have t1:=Ja bU p1;have t2:=Ja bU p2;have t3:=Ja bU p3;have lD:=lt0 wr wc;clear hlm1 hlm2 p0 p1 p2 p3 e6 hcu;have aC:=Jd HBV.out bU;have hpc:=HPA.out.later aC;have mI:IntKind.i32.wrap (k:Int)=(k:Int):=Kpo ⟨Ua,Ua⟩;have hownc:=Jy HOWN.out bU;have hXc:X<wc.heap.size:=Ua;have hVc:W1.heap.size<=wc.heap.size:=aC.size
     cases q
     ·have hkept:=Ksu x HN.out hpc;unfold vaV at hkept;have HK:=Nf hkept;have HBW2:=Nf aC;clear hkept hpc aC
      go_upto_region 12 with (go_at_call 93;go_loud (refine HK.out.mono ?_;rintro r w3 ⟨⟨kk,bb,rfl,iP,hk16⟩,aM⟩))
      have aE:=Jy hownc aM;have rH:=Jd HBW2.out aM;have fe:=aM.size;have hw3:W1.heap.size<=w3.heap.size:=Ua;have dU:IntKind.i32.wrap kk=kk:=Kpo ⟨Ua,Ua⟩;have HBW3:=Nf rH;clear aM rH hownc
      cases bb
      ·go_wp2_with fail
       go_roundw
       case rel=>exact⟨k+1,l,A6,c6,Ua,Uw,rfl,Nf ⟨aE,Ua,HI.out,HBW3.out⟩⟩
       case measure=>simp [intOf];omega
      ·go_wp2_with (first
        | (at_builtin;go_loud (refine Z2 rfl (.tmp 68) (.tmp 72) 27 rfl W1.heap.size 122 _ 2 16 Tryz.underlying27 Qz rfl Ua (.slice A7 (l.length+1) c7) (l.length+1) (cdC l ++ cdC [(4,kk)]) w7.heap.size 1 1 (cdC [(5,(k:Int))]) rfl (Js my) rfl rfl (fun j u hj=>Gz) Dk Ua Ua Ud ?_;intro v9 w9 dL hg9 hv9;obtain⟨A9,c9,rfl,-,-⟩:=Jv dL))
        | (at_builtin;go_loud (refine Z2 rfl (.tmp 62) (.tmp 66) 27 rfl W1.heap.size 122 _ 2 16 Tryz.underlying27 Qz rfl Ua (.slice A6 l.length c6) l.length (cdC l) w3.heap.size 1 1 (cdC [(4,kk)]) rfl (Js aE) rfl rfl (fun j u hj=>Gz) Dk Ua Ua Ud ?_;intro v7 w7 my hg7 hv7;obtain⟨A7,c7,rfl,-,-⟩:=Jv my;have hz7:=hg7.size;(try simp at hz7))))
       go_roundw
       case rel=>
        have hle9:(l ++ [((4:Int),kk)] ++ [((5:Int),(k:Int))]).length=l.length+1+1:=Uh;have hb7:=Kou (Jc HBW3.out _) hg7 (fun b hb=>(aE.lt b hb).1) Ud;refine⟨k+1,l ++ [(4,kk)] ++ [(5,(k:Int))],A9,c9,Ua,Uw,by rw [hle9],Nf ⟨?_,by rw [hle9];omega,Ko5 (Ko5 HI.out ⟨Ua,Ua⟩) ⟨Ua,Ua⟩,Kou (Jc hb7 _) hg9 (fun b hb=>(my.lt b hb).1) Ud⟩⟩;rw [hle9,Kpd,Kpd];exact dL
       case measure=>simp [intOf];omega
     ·obtain⟨hyr,nY,oJ⟩:=HYQ.out rfl;obtain⟨rU,hysz⟩:=Ksz hyr;have aZ:=Ksb y.2 rU nY Ua Ay cy wc (oJ.later bU) hpc;unfold exV Ko4 at aZ;have HC:=Nf aZ;have HBW2:=Nf aC;have HYS:=Nf hysz;clear aZ hpc aC hyr nY oJ rU
      go_wp2_with (first
        | (at_builtin;go_loud (refine Z2 rfl (.tmp 68) (.tmp 72) 27 rfl W1.heap.size 122 _ 2 16 Tryz.underlying27 Qz rfl Ua (.slice A7 (l.length+cc.length) c7) (l.length+cc.length) (cdC l ++ cdC cc) w7.heap.size 1 1 (cdC [(5,(k:Int))]) rfl (Js my) rfl rfl (fun j u hj=>Gz) Dk Ua Ua Ud ?_;intro v9 w9 dL hg9 hv9;obtain⟨A9,c9,rfl,-,-⟩:=Jv dL))
        | (at_builtin;go_loud (refine Z2 rfl (.tmp 49) (.tmp 53) 27 rfl W1.heap.size 122 _ 2 16 Tryz.underlying27 Qz rfl Ua (.slice A6 l.length c6) l.length (cdC l) gy cc.length capy (cdC cc) rfl aE rfl (Jma cc) hcy (Q2 cc) Ua Ua Ua ?_;intro v7 w7 my hg7 hv7;obtain⟨A7,c7,rfl,-,-⟩:=Jv my;have hz7:=hg7.size))
        | (go_at_call 92;go_loud (refine HC.out.mono ?_;rintro r w3 ⟨⟨v1,cc,rfl,ba,h01,iw,dN⟩,aM⟩;obtain⟨gy,capy,rfl,hgy,hgyl,-,-,hcy⟩:=Kc ba h01;have aE:=Jy hownc aM;have fe:=aM.size;have cB:cc.length<=240:=(by have:=HYS.out;omega);have qT:=Nf dN)))
      go_roundw
      case rel=>
       have hle9:(l ++ cc ++ [((5:Int),(k:Int))]).length=l.length+cc.length+1:=Ud;have hb7:=Kou (Jd HBW2.out aM) hg7 (fun b hb=>(aE.lt b hb).1) Ua;refine⟨k+1,l ++ cc ++ [(5,(k:Int))],A9,c9,Ua,Uw,by rw [hle9],Nf ⟨?_,by rw [hle9];omega,Ko5 (Kpx HI.out qT.out) ⟨Ua,Ua⟩,Kou (Jc hb7 _) hg9 (fun b hb=>(my.lt b hb).1) Ud⟩⟩;rw [hle9,Kpd,Kpd];exact dL
      case measure=>simp [intOf];omega
   ·obtain rfl:k=V1.length:=Ua;have q0:=Ja rq g0;have q1:=Ja rq g1;have q2:=Ja rq g2;have s0:=Ja rq z0;have s1:=Ja rq z1;have s2:=Ja rq z2;have sf:∀o,wr.frozen? ⟨w.heap.size+1+1,o,none⟩=false:=fun o=>(Jf rq _ _ yf).trans (zf o);have bV:=lt0 w1 wr;have gq:w.heap.size+1+1<wr.heap.size:=Ua;have dh:=Jd HBW.out rq
    by_cases h6:600<l.length
    ·have h6':(600:Int)<(l.length:Int):=Ua;clear nn
     go_wp2_with fail
     refine Nv (v:= .tuple #[.slice none 0 0,fV (4,0,3)]) My rfl ⟨.inl ⟨(4,0,3),rfl,Ug⟩,Qq _ _ _ dh Ua⟩
    ·have h6':¬(600:Int)<(l.length:Int):=Ua;clear nn
     go_upto_region 18 with (fail)
     go_region
     all_goals
      go_wp2_with fail
      refine Nv (v:= .tuple #[.slice A6 l.length c6,fV (0,0,0)]) My rfl ⟨.inr ⟨_,l,rfl,K8 (Jbd (Jbd (Jbd (Jy aY.out.own (Jh (Nt))) yf _ _) yf _ _) yf _ _) Ua,Ua,aY.out.i32⟩,Qq _ _ _ (Jh dh) Ua⟩
end Go.Proofs.YtdgjplldlfeolaaGreatDoor
