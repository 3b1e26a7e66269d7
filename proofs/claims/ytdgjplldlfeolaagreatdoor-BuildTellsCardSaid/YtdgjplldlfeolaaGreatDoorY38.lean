/- Lemmas. -/
import Derived.Test.YtdgjplldlfeolaaGreatDoorMac
import Derived.Test.YtdgjplldlfeolaaGreatDoorY36
import Derived.Lib.SmallJoins
import Derived.Test.YtdgjplldlfeolaaGreatDoorY08
import Derived.Deep.CutRange
import Derived.Test.YtdgjplldlfeolaaGreatDoorY34
import Derived.Test.YtdgjplldlfeolaaGreatDoorY19
import Derived.RegionTactic
set_option linter.unusedVariables false
set_option linter.unusedSimpArgs false
set_option maxRecDepth 100000
set_option maxHeartbeats 64000000
namespace Go.Proofs.YtdgjplldlfeolaaGreatDoor
open Go.RowKit Go.Sort
structure Jdc (w:World) (m:Im) (a:ImA) (l:List Int) (W:World):Prop where
 bel:Below w.heap.size w W
 st:Jf6 W (w.heap.size+1+1) (w.heap.size+1+1+1) l
 im:Jd5 W m a
 c0:W.cell? ⟨w.heap.size,0,none⟩=some (.int .u32 m.ver)
 c1:W.cell? ⟨w.heap.size,1,none⟩=some (.int .u32 m.fro)
 c2:W.cell? ⟨w.heap.size,2,none⟩=some (.int .i64 m.eld)
 c3:W.cell? ⟨w.heap.size,3,none⟩=some (.int .i64 m.fr.s)
 c5:W.cell? ⟨w.heap.size,5,none⟩=some (.int .i64 m.fr.n)
 c6:W.cell? ⟨w.heap.size,6,none⟩=some (.int .i64 m.fr.i)
 c7:W.cell? ⟨w.heap.size,7,none⟩=some (.int .i64 m.fr.u)
 c8:W.cell? ⟨w.heap.size,8,none⟩=some (.slice a.A1 m.first.length a.c1)
 c9:W.cell? ⟨w.heap.size,9,none⟩=some (.slice a.A2 m.step.length a.c2)
 c10:W.cell? ⟨w.heap.size,10,none⟩=some (.slice a.A3 m.move.length a.c3)
 c11:W.cell? ⟨w.heap.size,11,none⟩=some (.int .i64 m.sf)
 c12:W.cell? ⟨w.heap.size,12,none⟩=some (.int .i64 m.mf)
theorem Jdc.later {w:World} {m:Im} {a:ImA} {l:List Int} {W W':World} (h:Jdc w m a l W) (hb:Below W.heap.size W W'):Jdc w m a l W':=
 ⟨Jd h.bel hb,h.st.later hb,h.im.later hb,Ja hb h.c0,Ja hb h.c1,Ja hb h.c2,Ja hb h.c3,Ja hb h.c5,Ja hb h.c6,Ja hb h.c7,Ja hb h.c8,Ja hb h.c9,Ja hb h.c10,Ja hb h.c11,Ja hb h.c12⟩
theorem Jdc.put {w:World} {m:Im} {a:ImA} {l l2:List Int} {W W':World} (h0:Jd5 w m a) (h:Jdc w m a l W) (hs:Jf6 W' (w.heap.size+1+1) (w.heap.size+1+1+1) l2) (hk:J6 (fun k=>k=w.heap.size+1+1) W W'):Jdc w m a l2 W':=by
 have hb:=Nd w W' (hk.below h.bel (fun j hj=>Ua));have c:=fun(o:Nat) (v:Value) hc=>hk.cell (b:=w.heap.size) (o:=o) (v:=v) Ua hc;exact⟨hb,hs,h0.later hb,c _ _ h.c0,c _ _ h.c1,c _ _ h.c2,c _ _ h.c3,c _ _ h.c5,c _ _ h.c6,c _ _ h.c7,c _ _ h.c8,c _ _ h.c9,c _ _ h.c10,c _ _ h.c11,c _ _ h.c12⟩
theorem Jfb {n:Int} (h0:0<=n) (h1:n<18446744073709551616):IntKind.u64.wrap n=n:=by
 exact Ub5
theorem Jil {w:World} {m:Im} {a:ImA} {l:List Int} {W:World} (h0:Jd5 w m a) (h:Jdc w m a l W) (hl:l.length<=100000) (width:Nat) (wi:Int) (sH:wi=width) (hw:width=1\/width=2\/width=4) (x:Int) (hx0:0<=x) (hx:x<256 ^ width) :
  Calls Tryz.prog 58 #[.int .i64 wi,.int .u64 x,.pointer (some ⟨w.heap.size+1+1,0,none⟩),.pointer (some ⟨w.heap.size+1+1+1,0,none⟩)] W fun r w'=>r = .returned (.tuple #[])/\Jdc w m a (l ++ leB width x.toNat) w'/\J6 (fun k=>k=w.heap.size+1+1) W w':=by
 have hxx:((x.toNat:Nat):Int)=x:=Ua
 have h2:=Jw7 (w.heap.size+1+1) (w.heap.size+1+1+1) l (leB width x.toNat) width x.toNat W h.st (fun A cap W' hc=>by
  rcases hw with rfl|rfl|rfl
  ·exact Jm0 l A cap x.toNat W' hc hl Ua
  ·exact Jig l A cap x.toNat W' hc hl Ua
  ·exact Jnb l A cap x.toNat W' hc hl Ua)
 rw [hxx,<-sH] at h2;refine h2.mono ?_;rintro r w' ⟨hr,hs,hk⟩;exact⟨hr,h.put h0 hs hk,hk⟩
theorem Jpv {w:World} {m:Im} {a:ImA} {l x:List Int} {A2:Option Addr} {cap2:Nat} {W:World} (h0:Jd5 w m a) (h:Jdc w m a l W) (hx:Qc W (byU x) x.length A2 cap2) (hl:l.length<=100000) (hn:x.length<=65535) :
  Calls Tryz.prog 60 #[.slice A2 x.length cap2,.int .i64 0,.pointer (some ⟨w.heap.size+1+1,0,none⟩),.pointer (some ⟨w.heap.size+1+1+1,0,none⟩)] W fun r w'=>r = .returned (.tuple #[])/\Jdc w m a (l ++ Jcs x) w'/\J6 (fun k=>k=w.heap.size+1+1) W w':=by
 refine(Jwn (w.heap.size+1+1) (w.heap.size+1+1+1) l x A2 cap2 W h.st hx hl hn).mono ?_;rintro r w' ⟨hr,hs,hk⟩;exact⟨hr,h.put h0 hs hk,hk⟩
theorem Juu (m:Im) (a:ImA) (w:World) (hm:Jd5 w m a) (aw:Jsj m) (hr:m.Right) :
  Calls Tryz.prog 30 #[imV m a] w fun r w'=>(∃A cap,r = .returned (.tuple #[.slice A (Jba m).length cap,.bool true])/\Qc w' (byU (Jba m)) (Jba m).length A cap)/\Below w.heap.size w w':=by
 have gZ:∀(fn:Fn) (first cap:Array Value) (w:World),(Instr.makeFunc fn first cap).run Tryz.prog w = .ok (.func fn first cap) w:=fun _ _ _ _=>rfl;have pM:=Lib.run_convert_bytes_const (P:=Tryz.prog) (w.alloc (.cells #[.int .u32 m.ver,.int .u32 m.fro,.int .i64 m.eld,.int .i64 m.fr.s,.int .i64 m.fr.o,.int .i64 m.fr.n,.int .i64 m.fr.i,.int .i64 m.fr.u,.slice a.A1 m.first.length a.c1,.slice a.A2 m.step.length a.c2,.slice a.A3 m.move.length a.c3,.int .i64 m.sf,.int .i64 m.mf] 29)) 50 5 #[.int .u8 77,.int .u8 73,.int .u8 68,.int .u8 83] 4 4 Tryz.underlying50 Tryz.underlying5;rw [show(w.alloc (.cells #[.int .u32 m.ver,.int .u32 m.fro,.int .i64 m.eld,.int .i64 m.fr.s,.int .i64 m.fr.o,.int .i64 m.fr.n,.int .i64 m.fr.i,.int .i64 m.fr.u,.slice a.A1 m.first.length a.c1,.slice a.A2 m.step.length a.c2,.slice a.A3 m.move.length a.c3,.int .i64 m.sf,.int .i64 m.mf] 29)).heap.size=w.heap.size+1 by simp] at pM;have fm:=Fr.good_iff.1 hr.fr;obtain⟨⟨gs1,gs2⟩,⟨go1,go2⟩,⟨gn1,gn2⟩,⟨gi1,gi2⟩,gu1,gu2⟩:=fm;have fC:IntKind.u64.wrap m.ver=m.ver:=Jfb aw.ver.1 (by have:=aw.ver.2;omega);have aI:IntKind.u64.wrap m.fro=m.fro:=Jfb aw.fro.1 (by have:=aw.fro.2;omega);have iM:IntKind.u64.wrap m.sf=m.sf:=Jfb hr.step.2.2.1 (by have:=hr.step.2.2.2;omega);have hv4:IntKind.u64.wrap m.mf=m.mf:=Jfb hr.move.2.2.1 (by have:=hr.move.2.2.2;omega);have HM:=Nf hm;have kc:=Nf aw;have HR:=Nf hr;clear hm aw hr;obtain⟨A1,c1,A2,c2,A3,c3⟩:=a;unfold imV;dsimp only at *
 go_enter Tryz.func30,Tryz.ntmps30
 go_upto_region 4 with fail
 refine Jo fun W0 ag=>?_
 have kF:Jdc w m ⟨A1,c1,A2,c2,A3,c3⟩ [77,73,68,83] W0:=by
  refine⟨?_,⟨⟨some ⟨w.heap.size+1,0,none⟩,4,?_,?_⟩,?_,?_,Ua⟩,?_,?_,?_,?_,?_,?_,?_,?_,?_,?_,?_,?_,?_⟩
  ·exact Uz
  ·exact Uf
  ·refine⟨Ns _,Uo,rfl,fun _=>⟨w.heap.size+1,0,rfl,fun j u hj=>?_⟩⟩;have mX:=(Nh hj).1;rw [Ji3] at mX;rw [ag];simp only [Nl,Nm] at mX
   rcases(by omega:j=0\/j=1\/j=2\/j=3) with rfl|rfl|rfl|rfl <;> (simp [byU] at hj;subst hj;go_simp;rw [Go.Joins.cell_alloc_mark_at _ _ _ _ _ _ Uh];rfl)
  ·exact Uf
  ·exact Uf
  ·exact HM.out.later Uz
  all_goals (rw [ag];go_simp)
 have sy:=Nf kF;have HZ0:=kF.bel.size;have d0:=kF.c0;have d1:=kF.c1;clear kF ag pM gZ;generalize eb:([77,73,68,83]:List Int)=l0 at *;have bg:l0.length=4:=by rw [<-eb];rfl
 go_upto_region 6 with (first
  | (have hX:=qT;go_at_call 58;go_loud (refine(Jil HM.out qT.out (by rw [Nk,Y4];omega) 4 4 rfl (.inr (.inr rfl)) m.fro kc.out.fro.1 kc.out.fro.2).mono ?_;rintro r W2 ⟨rfl,dR,br⟩))
  | (go_at_call 58;go_loud (refine(Jil HM.out sy.out Ua 4 4 rfl (.inr (.inr rfl)) m.ver kc.out.ver.1 kc.out.ver.2).mono ?_;rintro r W1 ⟨rfl,dN,af⟩;have qT:=Nf dN;have d1':=dN.c1;clear dN)))
 have e2:=dR.c2;have e3:=dR.c3;have e5:=dR.c5;have e6:=dR.c6;have e7:=dR.c7;have mU:=Nf dR;clear dR d0 d1 d1' sy qT;have eu:(l0 ++ leB 4 m.ver.toNat ++ leB 4 m.fro.toNat).length=12:=by simp [Y4,bg]
 generalize aD:l0 ++ leB 4 m.ver.toNat ++ leB 4 m.fro.toNat=l2 at *
 have lK:∀x∈[m.eld,m.fr.s,m.fr.n,m.fr.i,m.fr.u],0<=x/\x<256:=by
  have:=HR.out.eld;intro x hx;simp only [List.mem_cons,List.not_mem_nil,or_false] at hx;exact Ua
 go_wp2_with fail
 refine Jo fun V hV=>?_;have bK:=Nd W2 V G8;have sw:=mU.out.later bK
 have ah:∀(k:Nat) (x:Int),[m.eld,m.fr.s,m.fr.n,m.fr.i,m.fr.u][k]?=some x->V.cell? ⟨W2.heap.size,k,none⟩=some (.int .i64 x):=by
  intro k x hx;have fR:=(Nh hx).1;simp only [Nl,Nm] at fR;rw [hV]
  rcases(by omega:k=0\/k=1\/k=2\/k=3\/k=4) with rfl|rfl|rfl|rfl|rfl <;> (simp at hx;subst hx;go_simp)
 have eT:w.heap.size+1+1<W2.heap.size:=by have:=mU.out.st.lt;omega
 have ue:W2.heap.size<V.heap.size:=Mj;have HCV:=Nf ah;have HIV:=Nf sw;have HES:=Nf lK;have ot : [m.eld,m.fr.s,m.fr.n,m.fr.i,m.fr.u].length=5:=rfl;clear hV bK sw ah lK e2 e3 e5 e6 e7 mU;generalize yR : [m.eld,m.fr.s,m.fr.n,m.fr.i,m.fr.u]=es at *;generalize W2.heap.size=g at *
 go_loopw [43] (fun i wr=>∃k:Nat,k<=5/\i = .int .i64 k/\Hid (Jdc w m ⟨A1,c1,A2,c2,A3,c3⟩ (l2 ++ (es.take k).flatMap (fun x=>leB 1 x.toNat)) wr)/\Hid (∀(k:Nat) (x:Int),es[k]?=some x->wr.cell? ⟨g,k,none⟩=some (.int .i64 x))/\g<wr.heap.size) (fun i _=>5-(intOf i).toNat)
 case atStart=>exact⟨0,Ua,rfl,Nf (by simpa using HIV.out),HCV,ue⟩
 case round=>
  obtain⟨k,hk,rfl,hi,dj,eC⟩:=hrel
  by_cases am:k<5
  ·have hx:es[k]?=some es[k]:=Ng Ua;have hb:=HES.out es[k] (Nj Ua);have aP:es.take (k+1)=es.take k ++ [es[k]]:=by rw [List.take_succ_eq_append_getElem Ua]
   generalize es[k]=x at hx hb aP;have c0:=dj.out k x hx
   have ai:(l2 ++ (es.take k).flatMap (fun x=>leB 1 x.toNat)).length<=100:=by
    have:((es.take k).flatMap (fun x=>leB 1 x.toNat)).length=(es.take k).length:=by
     generalize es.take k=q
     induction q with
     | nil=>rfl
     | cons y q ih=>rw [List.flatMap_cons,Nk,ih,Y4,Nl];omega
    rw [Nk,this,List.length_take];omega
   have qU:l2 ++ (es.take (k+1)).flatMap (fun x=>leB 1 x.toNat)=(l2 ++ (es.take k).flatMap (fun x=>leB 1 x.toNat)) ++ leB 1 x.toNat:=by
    rw [aP,List.flatMap_append,List.append_assoc];simp
   have HNX:=Nf qU;obtain⟨ax,ac⟩:=hb;have jr:IntKind.u64.wrap x=x:=Jfb ax Ua;have kT:=Nf (Jil HM.out hi.out Ua 1 1 rfl (.inl rfl) x ax Ua);have pM:(k:Int)<5:=Ua;clear hx aP qU ai
   go_wp2_with (go_at_call 58;go_loud (refine kT.out.mono ?_;rintro r W3 ⟨rfl,iI,dU⟩))
   go_roundw
   case rel=>exact⟨k+1,Ua,Uw,Nf (by rw [HNX.out];exact iI),Nf (fun j y hy=>dU.cell (b:=g) Ua (dj.out j y hy)),Nr eC dU.size⟩
   case measure=>simp [intOf];omega
  ·obtain rfl:k=5:=Ua;have bP:=hi.out;rw [show es.take 5=es from List.take_of_length_le Ua] at bP;have f11:=bP.c11;have f12:=bP.c12;have hn5:(l2 ++ es.flatMap (fun x=>leB 1 x.toNat)).length=17:=by rw [Nk,eu,<-yR];simp [Y4]
   generalize hl5:l2 ++ es.flatMap (fun x=>leB 1 x.toNat)=l5 at *;have wK:=Nf bP;clear hi dj bP HCV HIV HES
   go_upto_region 14 with (first
    | (have hX:=HI6;go_at_call 58;go_loud (refine(Jil HM.out HI6.out (by rw [Nk,Y4];omega) 2 2 rfl (.inr (.inl rfl)) m.mf HR.out.move.2.2.1 (by have:=HR.out.move.2.2.2;omega)).mono ?_;rintro r W7 ⟨rfl,oB,hk7⟩))
    | (go_at_call 58;go_loud (refine(Jil HM.out wK.out Ua 2 2 rfl (.inr (.inl rfl)) m.sf HR.out.step.2.2.1 (by have:=HR.out.step.2.2.2;omega)).mono ?_;rintro r W6 ⟨rfl,oA,hz6⟩;have HI6:=Nf oA;have f12':=oA.c12;clear oA)))
   have f8:=Nb W7 w.heap.size 8 (.slice A1 m.first.length c1) oB.c8;have HI7:=Nf oB;have hn7:(l5 ++ leB 2 m.sf.toNat ++ leB 2 m.mf.toNat).length=21:=by simp [Y4,hn5]
   generalize hl7:l5 ++ leB 2 m.sf.toNat ++ leB 2 m.mf.toNat=l7 at *;clear oB f11 f12 f12' wK HI6 hk7;have gM:m.first.length<=16:=by have h1:=HR.out.old;have h2:=gn2;omega
   have ak:=HM.out.first.1;have dm:=HM.out.first.2.1;unfold maxLen at dm
   go_wp2_with fail
   refine Jo fun V7 hV7=>?_;have rs:Hid (Jdc w m ⟨A1,c1,A2,c2,A3,c3⟩ l7 V7):=by rw [hV7];exact HI7
   clear hV7 HI7 f8
   go_loopw [10,65] (fun v i wr=>∃k:Nat,k<=m.first.length/\i = .int .i64 k/\wr.ownsRow V7.heap.size 22 1 v k (wdU ((m.first.map Xh).take k))/\Below V7.heap.size V7 wr) (fun _ i _=>m.first.length-(intOf i).toNat)
   case atStart=>exact⟨0,Np,rfl,Nw,Nt⟩
   case round=>
    obtain⟨k,hk,rfl,ae,ab⟩:=hrel;have bu:=ab.size;obtain⟨Ao,co,rfl,ln,jm⟩:=Jv ae;unfold maxLen at jm
    by_cases am:k<m.first.length
    ·have hx:m.first[k]?=some m.first[k]:=Ng am;have aP:(m.first.map Xh).take (k+1)=(m.first.map Xh).take k ++ [Xh m.first[k]]:=by rw [List.take_succ_eq_append_getElem (by simpa using am),List.getElem_map]
     generalize m.first[k]=x at hx aP;obtain⟨b,off,rfl,aH,y0⟩:=(show Qc wr (nuI m.first) m.first.length A1 c1 from rs.out.im.first.later ab).get (Jx3 hx);have dS:=fun W=>Jln x W;have eZ:=Nf aP;generalize Xh x=px at *;clear aP hx
     go_wp2_with (first
      | (go_at_call 62;refine(dS _).mono ?_;rintro r w1 ⟨rfl,rfl⟩)
      | (at_builtin;refine Kap rfl (.tmp 69) (.tmp 72) 141 rfl V7.heap.size 22 _ 1 4 Tryz.underlying141 Jxv rfl Ua (.slice Ao k co) k (wdU ((m.first.map Xh).take k)) _ 1 [.int .u32 (px:Nat)] rfl Uca rfl rfl (fun j u hj=>Lu) Vg Ua Ua Ly ?_;intro v2 w2 ao aq;have br:=aq.size;(try simp at br)))
     go_roundw
     case rel=>exact⟨k+1,Ua,Uw,by rw [eZ.out,Jyi];exact ao,(Jc ab _).trans aq⟩
     case measure=>simp [intOf];omega
    ·obtain rfl:k=m.first.length:=Ua;have yS:(m.first.map Xh).length=m.first.length:=List.length_map _;rw [<-yS,List.take_length,yS] at ae;have yT:Qc wr (wdU (m.first.map Xh)) m.first.length Ao co:=Qc.own2 ae;have uj:=fun W (h:Below wr.heap.size wr W)=>Jtd (m.first.map Xh) Ao co W (by rw [yS];exact yT.later h) Ua (fun x hx=>by obtain⟨y,_,rfl⟩:=List.mem_map.1 hx;exact Jne y);rw [yS] at uj;have hwb:Jax (m.first.map Xh)=Je9 m.first:=by unfold Jax Je9;rw [List.flatMap_map]
     rw [hwb] at uj;have hwl:(Je9 m.first).length<=64:=by rw [Jsn];omega
     generalize hwv:Je9 m.first=wv at *;have hI9:=rs.out.later ab;have HI9:=Nf hI9;clear ae yT yS hwb hI9
     go_upto_region 20 with (first
      | (go_at_call 63;go_loud (refine(uj _ (Nt)).mono ?_;rintro r Wb ⟨⟨v,rfl,kU⟩,aH⟩;obtain⟨Ab,cb,rfl,yU⟩:=Qc.of_own kU))
      | (go_at_call 60;go_loud (refine(Jpv HM.out (HI9.out.later aH) yU Ua Ua).mono ?_;rintro r W9 ⟨rfl,hi9,hk9⟩)))
     have f9:=Nb W9 w.heap.size 9 (.slice A2 m.step.length c2) hi9.c9;have hrl:∀x:List Int,(Jcs x).length=2+x.length:=fun x=>by unfold Jcs;rw [Nk,Y4]
     have hn9:(l7 ++ Jcs wv).length<=200:=by rw [Nk,hrl];omega
     generalize hl9:l7 ++ Jcs wv=l9 at *;have uv:=Nf hi9;have hwvH:=Nf hwv;have hrlH:=Nf hrl;have hl9H:=Nf hl9;clear hwv hrl hl9;have cP:=Jit m.step;have dF:=HR.out.step.1;have hmo:=Jit m.move;have tX:=HR.out.move.1;clear hi9 uj yU hk9 HI9 rs
     go_upto_region 21 with (first
      | (go_at_call 64;go_loud (refine(Jjg m.step A2 c2 _ uv.out.im.step dF HR.out.step.2.1 kc.out.step).mono ?_;rintro r Wc ⟨⟨v,rfl,kU⟩,bU⟩;obtain⟨Ac,cc,rfl,yV⟩:=Qc.of_own kU))
      | (go_at_call 60;go_loud (refine(Jpv HM.out (uv.out.later bU) yV Ua Ua).mono ?_;rintro r W10 ⟨rfl,uw,hk10⟩)))
     have f10:=Nb W10 w.heap.size 10 (.slice A3 m.move.length c3) uw.c10;have hn10:(l9 ++ Jcs (Ja7 m.step)).length<=4000:=by rw [Nk,hrlH.out];omega
     generalize yX:l9 ++ Jcs (Ja7 m.step)=l10 at *;have yY:=Nf yX;clear yX;have ux:=Nf uw;clear uw yV hk10 uv f9
     go_upto_region 22 with (first
      | (go_at_call 64;go_loud (refine(Jjg m.move A3 c3 _ ux.out.im.move tX HR.out.move.2.1 kc.out.move).mono ?_;rintro r Wd ⟨⟨v,rfl,kU⟩,ct⟩;obtain⟨Ad,cd,rfl,yZ⟩:=Qc.of_own kU))
      | (go_at_call 60;go_loud (refine(Jpv HM.out (ux.out.later ct) yZ Ua Ua).mono ?_;rintro r W11 ⟨rfl,za,hk11⟩)))
     have pN:l10 ++ Jcs (Ja7 m.move)=Jba m:=by
      unfold Jba Ju8;rw [<-yY.out,<-hl9H.out,<-hwvH.out,<-hl7,<-hl5,<-aD,<-eb,<-yR];simp [List.append_assoc]
     rw [pN] at za;obtain⟨ef,⟨⟨Ae,ce,g0,et⟩,-,g1,-⟩,-⟩:=za;have rk:=Nf et;clear et hk11 ux f10 yZ pN
     go_quiet (fail)
     go_wp2_with fail
     go_ret2
     refine⟨⟨_,_,rfl,rk.out.later ?_⟩,Jd ef ?_⟩ <;> exact Jb
structure Ko8 (w:World) (X:Nat) (V1:List Va) (A1:Option Addr) (c1 D1 n1:Nat) (d1:ByteArray->Option Int) (V2:List Va) (A2:Option Addr) (c2 D2 n2:Nat) (d2:ByteArray->Option Int) (b3:Nat):Prop where
 e0:w.cell? ⟨X,0,none⟩=some (.slice A1 V1.length c1)
 e1:w.cell? ⟨X,1,none⟩=some (.map (some D1))
 e3:w.cell? ⟨X,3,none⟩=some (.slice A2 V2.length c2)
 e4:w.cell? ⟨X,4,none⟩=some (.map (some D2))
 e6:w.cell? ⟨X,6,none⟩=some (.map (some b3))
 s1:Kpc w V1 A1 c1 D1 n1 d1
 s2:Kpc w V2 A2 c2 D2 n2 d2
section
variable {w w':World} {X:Nat} {V1:List Va} {A1:Option Addr} {c1 D1 n1:Nat} {d1:ByteArray->Option Int} {V2:List Va} {A2:Option Addr} {c2 D2 n2:Nat} {d2:ByteArray->Option Int} {b3:Nat}
theorem Ko8.later (h:Ko8 w X V1 A1 c1 D1 n1 d1 V2 A2 c2 D2 n2 d2 b3) (hb:Below w.heap.size w w'):Ko8 w' X V1 A1 c1 D1 n1 d1 V2 A2 c2 D2 n2 d2 b3:=
 ⟨Ja hb h.e0,Ja hb h.e1,Ja hb h.e3,Ja hb h.e4,Ja hb h.e6,h.s1.later hb,h.s2.later hb⟩
theorem Ksu (v:Va) (hv:v.name.size<=maxLen) (h:Ko8 w X V1 A1 c1 D1 n1 d1 V2 A2 c2 D2 n2 d2 b3) :
  Calls Tryz.prog 93 #[.pointer (some ⟨X,0,none⟩),vaV v] w fun r w'=>(∃(k:Int) (b:Bool),r = .returned (.tuple #[.int .i64 k,.bool b])/\0<=k/\k<=16)/\Below w.heap.size w w':=by
 have hrng:=h.s2.rng v.name;have hl16:=h.s2.len;have ng:=h.s2.vars.1;have xo:=h.s2.vars.2.1;unfold maxLen at xo;have q3:=h.e3;have q4:=h.e4;have hX:=Nu q3;have kg:=h.s2.map;have aJ:=h.s2.vars;clear h;unfold vaV
 go_enter Tryz.func93,Tryz.ntmps93
 go_wp2_with fail
 refine Jo fun W0 ag=>?_;have ax:=Nd w W0 Uz;have p0:=Nb W0 w.heap.size 0 (.string v.name) Uf;have p1:=Na W0 w.heap.size 1 v.type Uf;have bD:w.heap.size<W0.heap.size:=Vu;clear ag;replace q3:=Ja ax q3;replace q4:=Ja ax q4;replace kg:=kg.bel ax;replace aJ:=aJ.later ax;have oz:X<W0.heap.size:=Ua
 cases hd:d2 v.name with
 | none=>
  have hlk:=fun nn=>Kpq (w:=W0.drewN nn) (t:=177) Tryz.underlying9 Tryz.underlying177 Tryz.underlying3 (Kj _) (kg.bel (J8 (Nt) nn)) hv (r:=0) (q:=false) D6 D6;clear kg aJ hd hrng
  go_quiet (fail)
  go_upto_region 2 with (fail)
  go_quiet (fail)
  go_wp2_with fail
  go_ret2
  exact⟨⟨0,false,rfl,Ua,Ua⟩,Fj⟩
 | some k=>
  obtain⟨iP,cD⟩:=hrng k hd;have hlk:=fun nn=>Kpq (w:=W0.drewN nn) (t:=177) Tryz.underlying9 Tryz.underlying177 Tryz.underlying3 (Kj _) (kg.bel (J8 (Nt) nn)) hv (r:=k) (q:=true) D6 D6;obtain⟨j,rfl⟩:∃j:Nat,k=(j:Int):=⟨k.toNat,Ua⟩;have hj:j<V2.length:=Ua;have hx:V2[j]?=some V2[j]:=Ng hj;generalize V2[j]=x at hx;obtain⟨b,off,rfl,aH,⟨d0,dd1,dd2,dd3⟩⟩:=aJ.get hx;clear kg aJ hd hrng hx
  cases ht:(x.type == v.type)
  ·exact Ua5
  ·exact Ua5
end
structure Koz (W:World) (g base:Nat) (l:List (Int×Int)) (A:Option Addr) (cap:Nat):Prop where
 c0:W.cell? ⟨g,0,none⟩=some (.slice A l.length cap)
 own:W.ownsRow base 122 2 (.slice A l.length cap) l.length (cdC l)
 fz:W.frozen? ⟨g,0,none⟩=false
 lt:g<base
 le:base<=W.heap.size
abbrev Aft (g base:Nat) (W W':World):Prop:=J6 (fun k=>k=g\/base<=k) W W'
theorem Aft.below {g base:Nat} {w W W':World} (h:Aft g base W W') (hb:Below w.heap.size w W) (hg:w.heap.size<=g) (am:g<base):Below w.heap.size w W':=
 J6.below hb h fun k hk=>by show ¬(k=g\/base<=k);omega
theorem Kpd (l m:List (Int×Int)):cdC (l ++ m)=cdC l ++ cdC m:=by unfold cdC;simp
theorem Koz.later {W W':World} {g base:Nat} {l:List (Int×Int)} {A:Option Addr} {cap:Nat} (h:Koz W g base l A cap) (hb:Below W.heap.size W W'):Koz W' g base l A cap:=
 ⟨Ja hb h.c0,Jy h.own hb,(Jf hb _ _ (Nu h.c0)).trans h.fz,h.lt,Nat.le_trans h.le hb.size⟩
theorem Koz.new (W:World) (t:TypeId):Koz (W.alloc (.cells #[.slice none 0 0] t)) W.heap.size (W.heap.size+1) [] none 0:=
 ⟨Gd,Nw,Uc,Ua,Uh⟩
theorem Koz.put {W w1:World} {g base b0:Nat} {l c:List (Int×Int)} {A A1:Option Addr} {cap c1:Nat} (h:Koz W g base l A cap) (hb:Below W.heap.size W w1) (ax:base<=b0) (wU:b0<=w1.heap.size) (ho:w1.ownsRow b0 122 2 (.slice A1 c.length c1) c.length (cdC c)) :
  Koz (w1.setCell ⟨g,0,none⟩ (.slice A1 c.length c1)) g b0 c A1 c1/\Aft g base W (w1.setCell ⟨g,0,none⟩ (.slice A1 c.length c1)):=by
 have h':=h.later hb;have am:=h.lt;exact⟨⟨Nx _ _ _ h'.c0,Jbd ho Ua 0 _,(World.frozen?_setCell ..).trans h'.fz,Ua,by simpa using wU⟩,(J6.bel hb).setCell (b:=g) (.inl rfl) _ _⟩
theorem Koz.app {W w4:World} {g base:Nat} {l c:List (Int×Int)} {A A6:Option Addr} {cap c6:Nat} (h:Koz W g base l A cap) (ho:w4.ownsRow base 122 2 (.slice A6 (l.length+c.length) c6) (l.length+c.length) (cdC l ++ cdC c)) (hg:W.grownBy w4 (Value.slice A l.length cap).ownBlock) :
  Koz (w4.setCell ⟨g,0,none⟩ (.slice A6 (l.length+c.length) c6)) g base (l ++ c) A6 c6/\Aft g base W (w4.setCell ⟨g,0,none⟩ (.slice A6 (l.length+c.length) c6)):=by
 have am:=h.lt;have nn:=h.le;have hz:=hg.size;have aS:some g≠(Value.slice A l.length cap).ownBlock:=fun he=>Md;have hbk:=hg.block g Ua aS;have ai:(l ++ c).length=l.length+c.length:=Uh;refine⟨⟨?_,?_,?_,am,Ui⟩,?_⟩
 ·rw [ai];exact Nx _ _ _ (Jr hbk h.c0)
 ·rw [ai,Kpd];exact Jbd ho am 0 _
 ·rw [World.frozen?_setCell,World.frozen?_of_block (a:=⟨g,0,none⟩) hbk];exact h.fz
 ·exact(J6.grown (S:=fun k=>k=g\/base<=k) hg fun k hk=> .inr (h.own.lt k hk).1).setCell (b:=g) (.inl rfl) _ _
theorem Kps (W:World) (g base:Nat) (l:List (Int×Int)) (A:Option Addr) (cap:Nat) (h:Koz W g base l A cap) (op n:Int) (hl:l.length<=100000) :
  Calls Tryz.prog 114 #[.int .i64 op,.int .i32 n,.pointer (some ⟨g,0,none⟩)] W fun r w'=>r = .returned (.tuple #[])/\(∃A2 c2,Koz w' g base (l ++ [(op,n)]) A2 c2)/\Aft g base W w':=by
 have b0:=h.c0;have eS:=Nu b0;have nn:=h.le;have h1:=h.later (Jc (Below.refl W.heap.size W) (.cells #[.int .i64 op,.int .i32 n] 122));have am:=h.lt
 go_enter Tryz.func114,Tryz.ntmps114
 go_wp2_with (at_builtin;go_loud (refine Z2 rfl (.tmp 5) (.tmp 9) 27 rfl base 122 _ 2 16 Tryz.underlying27 Qz rfl Ua (.slice A l.length cap) l.length (cdC l) W.heap.size 1 1 (cdC [(op,n)]) rfl h1.own rfl rfl (fun j u hj=>Gz) Dk Ua Ua Ud ?_;intro v2 w2 ao aG aI;obtain⟨A2,c2,rfl,-,-⟩:=Jv ao;have ra:=h1.app (c:=[(op,n)]) ao aG;have br:W.heap.size+1<=w2.heap.size:=Dw;have hbk:=aG.block g Ud (fun he=>by have:=(h1.own.lt g he.symm).1;omega);have b2:=Nb w2 g 0 (.slice A l.length cap) (Jr hbk h1.c0);have f2:=Nc w2 g 0 ((World.frozen?_of_block (a:=⟨g,0,none⟩) hbk).trans h1.fz)))
 go_end0
 exact⟨rfl,⟨A2,c2,ra.1⟩,(J6.bel (Jc (Nt) _)).trans' ra.2⟩
theorem Kse (w:World):(zeroValue 173).run Tryz.prog w = .ok (.agg #[.string ⟨#[]⟩,.int .i64 0,.int .i32 0,.string ⟨#[]⟩,.slice none 0 0]) w:=Ue
def StM (w:World) (f:ByteArray->Option Value):Prop:=∀s v,f s=some v->∃(x:ByteArray×Ex) (A:Option Addr) (c:Nat),v=stV x A c/\x.2.right=0/\x.2.OK/\Jt w x.2 A c
theorem StM.later {w w':World} {f:ByteArray->Option Value} (h:StM w f) (hb:Below w.heap.size w w'):StM w' f:=fun s v hv=>by
 obtain⟨x,A,c,h1,h2,h3,h4⟩:=h s v hv;exact⟨x,A,c,h1,h2,h3,h4.later hb⟩
theorem Kq8 {w:World} {f:ByteArray->Option Value} (h:StM w f) (s:ByteArray):∃(y:ByteArray×Ex) (A:Option Addr) (c:Nat),(f s).getD (.agg #[.string ⟨#[]⟩,.int .i64 0,.int .i32 0,.string ⟨#[]⟩,.slice none 0 0]) = .agg #[.string y.1,.int .i64 y.2.kind,.int .i32 y.2.n,.string y.2.name,.slice A y.2.sub.length c]/\((f s).isSome=true->y.2.right=0/\y.2.OK/\Jt w y.2 A c):=by
 cases hf:f s with
 | none=>exact⟨(⟨#[]⟩,Ex.zero),none,0,rfl,fun h=>Lc⟩
 | some v=>
  obtain⟨y,A,c,rfl,h2,h3,h4⟩:=h s v hf;exact⟨y,A,c,rfl,fun _=>⟨h2,h3,h4⟩⟩
section
variable {w:World} {X:Nat} {V1:List Va} {A1:Option Addr} {c1 D1 n1:Nat} {d1:ByteArray->Option Int} {V2:List Va} {A2:Option Addr} {c2 D2 n2:Nat} {d2:ByteArray->Option Int} {b3:Nat}
theorem Ksi (x:ByteArray×Ex) (A:Option Addr) (cap n3:Nat) (fs:ByteArray->Option Value) (hx:x.1.size<=maxLen) (hr:x.2.right=0) (he:Jt w x.2 A cap) (h:Ko8 w X V1 A1 c1 D1 n1 d1 V2 A2 c2 D2 n2 d2 b3) (hm:Ko3 Tryz.prog 9 w b3 n3 fs) (hs:StM w fs) :
  Calls Tryz.prog 113 #[.pointer (some ⟨X,0,none⟩),stV x A cap] w fun r w'=>(∃e:Int,r = .returned (.int .i64 e))/\Below w.heap.size w w':=by
 have hXw:X<w.heap.size:=Nu h.e0;have hsim:=fun W (hb:Below w.heap.size w W)=>Kra x.2 A cap W (he.later hb);have ix:=fun W (hb:Below w.heap.size w W)=>Ks8 x.2 A cap V2 A2 c2 W (he.later hb) (h.s2.vars.later hb) h.s2.names (by have:=h.s2.len;omega);generalize ofF x.2 V2=O at ix;obtain⟨ty,er⟩:=O;dsimp only at ix;unfold stV;unfold exV at hsim ix;have HSIM:=Nf hsim;have HOF:=Nf ix;clear hsim ix
 go_enter Tryz.func113,Tryz.ntmps113
 go_wp2_with fail
 refine Jo fun W0 ag=>?_;have ax:=Nd w W0 Uz;have p0:=Nb W0 w.heap.size 0 (.string x.1) Uf;have p1:=Na W0 w.heap.size 1 x.2.kind Uf;have p2:=Nb W0 w.heap.size 2 (.int .i32 x.2.n) Uf;have p3:=Nb W0 w.heap.size 3 (.string x.2.name) Uf;have p4:=Nb W0 w.heap.size 4 (.slice A x.2.sub.length cap) Uf;have bD:w.heap.size<W0.heap.size:=Vu;clear ag;have pp:=h.later ax;have eU:=hm.bel ax;have e1:=pp.e1;have oz:X<W0.heap.size:=Nr hXw ax.size;have HP0:=Nf pp;have HM0:=Nf eU;have HB0:=Nf ax;have hrng:=h.s1.rng x.1;obtain⟨y,Ay,cy,hyv,-⟩:=Kq8 hs x.1;have HYV:=Nf hyv;have HSM:=Nf h.s2.names;have fC:=h.s1.vars;have ku:=Nf fC;clear h hm pp eU ax he hs hyv fC
 cases hd:d1 x.1 with
 | none=>
  have hlk:=fun nn=>Kpq (w:=W0.drewN nn) (t:=177) Tryz.underlying9 Tryz.underlying177 Tryz.underlying3 (Kj _) (HP0.out.s1.map.bel (J8 (Nt) nn)) hx (r:=0) (q:=false) D6 D6;clear hd hrng
  go_quiet (fail)
  go_wp2_with fail
  go_ret;exact⟨⟨19,rfl⟩,by first|exact J8 HB0.out _|exact Jh HB0.out⟩
 | some k=>
  obtain⟨iP,cD⟩:=hrng k hd;have hlk:=fun nn=>Kpq (w:=W0.drewN nn) (t:=177) Tryz.underlying9 Tryz.underlying177 Tryz.underlying3 (Kj _) (HP0.out.s1.map.bel (J8 (Nt) nn)) hx (r:=k) (q:=true) D6 D6;clear hd hrng;obtain⟨j,rfl⟩:∃j:Nat,k=(j:Int):=⟨k.toNat,Ua⟩
  go_quiet (fail)
  go_upto_region 4 with (fail)
  refine Jo fun W1 bt=>?_;have ac:=Nd W0 W1 (by rw [bt];(first|exact J8 (Nt) _|exact Jh (Nt)))
  have ii:=HP0.out.later ac;have iw:=HM0.out.bel ac;replace p0:=Ja ac p0;replace p1:=Ja ac p1;replace p2:=Ja ac p2;replace p3:=Ja ac p3;replace p4:=Ja ac p4;have gS:=Jd HB0.out ac;have af:w.heap.size<W1.heap.size:=Nr bD ac.size;have xP:X<W1.heap.size:=Nr oz ac.size;have HBW:=Nf gS;clear bt ac hlk e1 HP0 HM0 HB0 oz bD gS;have e6:=ii.e6;have e0:=ii.e0;have e3:=ii.e3;obtain⟨q,hq⟩:∃q,(fs x.1).isSome=q:=⟨_,rfl⟩;have yS:=fun W (hb:Below W1.heap.size W1 W)=>Kqi (w:=W) (t:=181) Tryz.underlying9 Tryz.underlying181 (Kse W) (iw.bel hb) hx HYV.out hq;have hlm1:=yS W1.drew (Jh (Nt));have hlm2:=yS (W1.alloc (.cells #[.string ⟨#[]⟩,.int .i64 0,.int .i32 0,.string ⟨#[]⟩,.slice none 0 0] 173)).drew (Jh (Jc (Nt) _));have HP1:=Nf ii;have HR:=Nf hr;clear yS iw ii hq hr
  go_cut [7,8] from 24 to 33 (fun s7 s8 wx=>s8 = .bool q/\Hid (Below W1.heap.size W1 wx))
  case first=>
   go_region
   all_goals
    go_wp2_with fail
    go_meet
    exact⟨rfl,Nf F3⟩
  case rest=>
   obtain⟨rfl,bU⟩:=hcut;have iY:=Jd HBW.out bU.out;have r0:=Ja bU.out p0;have r1:=Ja bU.out p1;have r2:=Ja bU.out p2;have r3:=Ja bU.out p3;have r4:=Ja bU.out p4;have r5:=Ja bU.out e0;have r6:=Ja bU.out e3;have iG:=bU.out.size;have lD:=lt0 w wc;have hXc:X<wc.heap.size:=Ua;clear hlm1 hlm2 p0 p1 p2 p3 p4 e0 e3 e6
   cases q
   ·cases hsi:x.2.simple
    ·have hsim:=HSIM.out wc iY;rw [hsi] at hsim;clear hsi
     go_wp2_with (go_at_call 126;go_loud (refine hsim.mono ?_;rintro r w3 ⟨rfl,aM⟩))
     go_ret;exact⟨⟨4,rfl⟩,Jd iY aM⟩
    ·have hsim:=HSIM.out wc iY;rw [hsi] at hsim;clear hsi
     go_upto_region 9 with (go_at_call 126;go_loud (refine hsim.mono ?_;rintro r w3 ⟨rfl,aM⟩;have t1:=Ja aM r1;have t2:=Ja aM r2;have t3:=Ja aM r3;have t4:=Ja aM r4;have t5:=Ja aM r5;have t6:=Ja aM r6;have fe:=aM.size;have ow:=lt0 w w3;have ns:X<w3.heap.size:=Ua;have rH:=Jd iY aM))
     have hofc:=fun W (hb:Below w3.heap.size w3 W)=>HOF.out W (Jd rH hb);have wW:X<w3.heap.size:=ns;have mX:j<V1.length:=Ua;have hx:V1[j]?=some V1[j]:=Ng mX;generalize V1[j]=xv at hx;have iM:=ku.out.later rH;have ng:=iM.1;have xo:=iM.2.1;unfold maxLen at xo;obtain⟨b,off,rfl,aH,⟨d0,dd1,dd2,dd3⟩⟩:=iM.get hx;have jO:(j:Int)<(V1.length:Int):=Ua;clear hx iM
     cases her:(er == 0)
     ·exact Bu
     ·cases het:(ty != xv.type)
      ·exact Bu
      ·exact Bu
   ·go_wp2_with fail
    go_ret;exact⟨⟨18,rfl⟩,iY⟩
end
end Go.Proofs.YtdgjplldlfeolaaGreatDoor
