/- Lemmas. -/
import Derived.Test.YtdgjplldlfeolaaGreatDoorZ44
import Derived.Lib.SmallJoins
set_option linter.unusedVariables false
set_option linter.unusedSimpArgs false
set_option maxRecDepth 100000
set_option maxHeartbeats 64000000
namespace Go.Proofs.YtdgjplldlfeolaaGreatDoor
open Go.RowKit Go.Sort
structure Jdc (w:World) (m:Im) (a:ImA) (l:List Int) (W:World):Prop where
 bel:Below w.heap.size w W
 st:Jf6 W (w.heap.size+1+1) (w.heap.size+1+1+1) l
 im:Jd5 W m a
 c0:W.cell? ⟨w.heap.size,0,none⟩=some (.int .u32 m.ver)
 c1:W.cell? ⟨w.heap.size,1,none⟩=some (.int .u32 m.fro)
 c2:W.cell? ⟨w.heap.size,2,none⟩=some (.int .i64 m.eld)
 c3:W.cell? ⟨w.heap.size,3,none⟩=some (.int .i64 m.fr.s)
 c5:W.cell? ⟨w.heap.size,5,none⟩=some (.int .i64 m.fr.n)
 c6:W.cell? ⟨w.heap.size,6,none⟩=some (.int .i64 m.fr.i)
 c7:W.cell? ⟨w.heap.size,7,none⟩=some (.int .i64 m.fr.u)
 c8:W.cell? ⟨w.heap.size,8,none⟩=some (.slice a.A1 m.first.length a.c1)
 c9:W.cell? ⟨w.heap.size,9,none⟩=some (.slice a.A2 m.step.length a.c2)
 c10:W.cell? ⟨w.heap.size,10,none⟩=some (.slice a.A3 m.move.length a.c3)
 c11:W.cell? ⟨w.heap.size,11,none⟩=some (.int .i64 m.sf)
 c12:W.cell? ⟨w.heap.size,12,none⟩=some (.int .i64 m.mf)
theorem Jdc.later {w:World} {m:Im} {a:ImA} {l:List Int} {W W':World} (h:Jdc w m a l W) (hb:Below W.heap.size W W'):Jdc w m a l W':=
 ⟨Jd h.bel hb,h.st.later hb,h.im.later hb,Ja hb h.c0,Ja hb h.c1,Ja hb h.c2,Ja hb h.c3,Ja hb h.c5,Ja hb h.c6,Ja hb h.c7,Ja hb h.c8,Ja hb h.c9,Ja hb h.c10,Ja hb h.c11,Ja hb h.c12⟩
theorem Jdc.put {w:World} {m:Im} {a:ImA} {l l2:List Int} {W W':World} (h0:Jd5 w m a) (h:Jdc w m a l W) (hs:Jf6 W' (w.heap.size+1+1) (w.heap.size+1+1+1) l2) (hk:J6 (fun k=>k=w.heap.size+1+1) W W'):Jdc w m a l2 W':=by
 have hb:Below w.heap.size w W':=hk.below h.bel (fun j hj=>by omega);have c:=fun(o:Nat) (v:Value) hc=>hk.cell (b:=w.heap.size) (o:=o) (v:=v) (by omega) hc;exact⟨hb,hs,h0.later hb,c _ _ h.c0,c _ _ h.c1,c _ _ h.c2,c _ _ h.c3,c _ _ h.c5,c _ _ h.c6,c _ _ h.c7,c _ _ h.c8,c _ _ h.c9,c _ _ h.c10,c _ _ h.c11,c _ _ h.c12⟩
theorem Jfb {n:Int} (h0:0<=n) (h1:n<18446744073709551616):IntKind.u64.wrap n=n:=by
 simp [IntKind.wrap,IntKind.bits,IntKind.signed];omega
theorem Jil {w:World} {m:Im} {a:ImA} {l:List Int} {W:World} (h0:Jd5 w m a) (h:Jdc w m a l W) (hl:l.length<=100000) (width:Nat) (wi:Int) (sH:wi=width) (hw:width=1\/width=2\/width=4) (x:Int) (hx0:0<=x) (hx:x<256 ^ width) :
  Calls Tryz.prog 58 #[.int .i64 wi,.int .u64 x,.pointer (some ⟨w.heap.size+1+1,0,none⟩),.pointer (some ⟨w.heap.size+1+1+1,0,none⟩)] W fun r w'=>r = .returned (.tuple #[])/\Jdc w m a (l ++ leB width x.toNat) w'/\J6 (fun k=>k=w.heap.size+1+1) W w':=by
 have hxx:((x.toNat:Nat):Int)=x:=by omega
 have h2:=Jw7 (w.heap.size+1+1) (w.heap.size+1+1+1) l (leB width x.toNat) width x.toNat W h.st (fun A cap W' hc=>by
  rcases hw with rfl|rfl|rfl
  ·exact Jm0 l A cap x.toNat W' hc hl (by omega)
  ·exact Jig l A cap x.toNat W' hc hl (by omega)
  ·exact Jnb l A cap x.toNat W' hc hl (by omega))
 rw [hxx,<-sH] at h2;refine h2.mono ?_;rintro r w' ⟨hr,hs,hk⟩;exact⟨hr,h.put h0 hs hk,hk⟩
theorem Jpv {w:World} {m:Im} {a:ImA} {l x:List Int} {A2:Option Addr} {cap2:Nat} {W:World} (h0:Jd5 w m a) (h:Jdc w m a l W) (hx:Qc W (byU x) x.length A2 cap2) (hl:l.length<=100000) (hn:x.length<=65535) :
  Calls Tryz.prog 60 #[.slice A2 x.length cap2,.int .i64 0,.pointer (some ⟨w.heap.size+1+1,0,none⟩),.pointer (some ⟨w.heap.size+1+1+1,0,none⟩)] W fun r w'=>r = .returned (.tuple #[])/\Jdc w m a (l ++ Jcs x) w'/\J6 (fun k=>k=w.heap.size+1+1) W w':=by
 refine(Jwn (w.heap.size+1+1) (w.heap.size+1+1+1) l x A2 cap2 W h.st hx hl hn).mono ?_;rintro r w' ⟨hr,hs,hk⟩;exact⟨hr,h.put h0 hs hk,hk⟩
theorem Juu (m:Im) (a:ImA) (w:World) (hm:Jd5 w m a) (aw:Jsj m) (hr:m.Right) :
  Calls Tryz.prog 30 #[imV m a] w fun r w'=>(∃A cap,r = .returned (.tuple #[.slice A (Jba m).length cap,.bool true])/\Qc w' (byU (Jba m)) (Jba m).length A cap)/\Below w.heap.size w w':=by
 have gZ:∀(fn:Fn) (first cap:Array Value) (w:World),(Instr.makeFunc fn first cap).run Tryz.prog w = .ok (.func fn first cap) w:=fun _ _ _ _=>rfl;have pM:=Lib.run_convert_bytes_const (P:=Tryz.prog) (w.alloc (.cells #[.int .u32 m.ver,.int .u32 m.fro,.int .i64 m.eld,.int .i64 m.fr.s,.int .i64 m.fr.o,.int .i64 m.fr.n,.int .i64 m.fr.i,.int .i64 m.fr.u,.slice a.A1 m.first.length a.c1,.slice a.A2 m.step.length a.c2,.slice a.A3 m.move.length a.c3,.int .i64 m.sf,.int .i64 m.mf] 29)) 50 5 #[.int .u8 77,.int .u8 73,.int .u8 68,.int .u8 83] 4 4 Tryz.underlying50 Tryz.underlying5;rw [show(w.alloc (.cells #[.int .u32 m.ver,.int .u32 m.fro,.int .i64 m.eld,.int .i64 m.fr.s,.int .i64 m.fr.o,.int .i64 m.fr.n,.int .i64 m.fr.i,.int .i64 m.fr.u,.slice a.A1 m.first.length a.c1,.slice a.A2 m.step.length a.c2,.slice a.A3 m.move.length a.c3,.int .i64 m.sf,.int .i64 m.mf] 29)).heap.size=w.heap.size+1 by simp] at pM;have fm:=Fr.good_iff.1 hr.fr;obtain⟨⟨gs1,gs2⟩,⟨go1,go2⟩,⟨gn1,gn2⟩,⟨gi1,gi2⟩,gu1,gu2⟩:=fm;have fC:IntKind.u64.wrap m.ver=m.ver:=Jfb aw.ver.1 (by have:=aw.ver.2;omega);have aI:IntKind.u64.wrap m.fro=m.fro:=Jfb aw.fro.1 (by have:=aw.fro.2;omega);have iM:IntKind.u64.wrap m.sf=m.sf:=Jfb hr.step.2.2.1 (by have:=hr.step.2.2.2;omega);have hv4:IntKind.u64.wrap m.mf=m.mf:=Jfb hr.move.2.2.1 (by have:=hr.move.2.2.2;omega);have HM:=Lib.hid hm;have kc:=Lib.hid aw;have HR:=Lib.hid hr;clear hm aw hr;obtain⟨A1,c1,A2,c2,A3,c3⟩:=a;unfold imV;dsimp only at *
 go_enter Tryz.func30,Tryz.ntmps30
 go_upto_region 4 with fail
 refine Jo fun W0 ag=>?_
 have kF:Jdc w m ⟨A1,c1,A2,c2,A3,c3⟩ [77,73,68,83] W0:=by
  refine⟨?_,⟨⟨some ⟨w.heap.size+1,0,none⟩,4,?_,?_⟩,?_,?_,by omega⟩,?_,?_,?_,?_,?_,?_,?_,?_,?_,?_,?_,?_,?_⟩
  ·rw [ag];exact Jb
  ·rw [ag];go_simp
  ·refine⟨Nat.le_refl _,by unfold maxLen;omega,rfl,fun _=>⟨w.heap.size+1,0,rfl,fun j u hj=>?_⟩⟩;have mX:=(List.getElem?_eq_some_iff.1 hj).1;rw [Ji3] at mX;rw [ag];simp only [List.length_cons,List.length_nil] at mX
   rcases(by omega:j=0\/j=1\/j=2\/j=3) with rfl|rfl|rfl|rfl <;> (simp [byU] at hj;subst hj;go_simp;rw [Go.Joins.cell_alloc_mark_at _ _ _ _ _ _ (by simp)];rfl)
  ·rw [ag];go_simp
  ·rw [ag];go_simp
  ·exact HM.out.later (by rw [ag];exact Jb)
  all_goals (rw [ag];go_simp)
 have sy:=Lib.hid kF;have HZ0:=kF.bel.size;have d0:=kF.c0;have d1:=kF.c1;clear kF ag pM gZ;generalize eb:([77,73,68,83]:List Int)=l0 at *;have bg:l0.length=4:=by rw [<-eb];rfl
 go_upto_region 6 with (first
  | (have hX:=qT;go_at_call 58;go_loud (refine(Jil HM.out qT.out (by rw [List.length_append,Y4];omega) 4 4 rfl (.inr (.inr rfl)) m.fro kc.out.fro.1 kc.out.fro.2).mono ?_;rintro r W2 ⟨rfl,dR,br⟩))
  | (go_at_call 58;go_loud (refine(Jil HM.out sy.out (by omega) 4 4 rfl (.inr (.inr rfl)) m.ver kc.out.ver.1 kc.out.ver.2).mono ?_;rintro r W1 ⟨rfl,dN,af⟩;have qT:=Lib.hid dN;have d1':=dN.c1;clear dN)))
 have e2:=dR.c2;have e3:=dR.c3;have e5:=dR.c5;have e6:=dR.c6;have e7:=dR.c7;have mU:=Lib.hid dR;clear dR d0 d1 d1' sy qT;have eu:(l0 ++ leB 4 m.ver.toNat ++ leB 4 m.fro.toNat).length=12:=by simp [Y4,bg]
 generalize aD:l0 ++ leB 4 m.ver.toNat ++ leB 4 m.fro.toNat=l2 at *
 have lK:∀x∈[m.eld,m.fr.s,m.fr.n,m.fr.i,m.fr.u],0<=x/\x<256:=by
  have:=HR.out.eld;intro x hx;simp only [List.mem_cons,List.not_mem_nil,or_false] at hx;omega
 go_wp2_with fail
 refine Jo fun V hV=>?_;have bK:Below W2.heap.size W2 V:=by rw [hV];exact Jc (Below.refl _ _) _
 have sw:=mU.out.later bK
 have ah:∀(k:Nat) (x:Int),[m.eld,m.fr.s,m.fr.n,m.fr.i,m.fr.u][k]?=some x->V.cell? ⟨W2.heap.size,k,none⟩=some (.int .i64 x):=by
  intro k x hx;have fR:=(List.getElem?_eq_some_iff.1 hx).1;simp only [List.length_cons,List.length_nil] at fR;rw [hV]
  rcases(by omega:k=0\/k=1\/k=2\/k=3\/k=4) with rfl|rfl|rfl|rfl|rfl <;> (simp at hx;subst hx;go_simp)
 have eT:w.heap.size+1+1<W2.heap.size:=by have:=mU.out.st.lt;omega
 have ue:W2.heap.size<V.heap.size:=by rw [hV];simp
 have HCV:=Lib.hid ah;have HIV:=Lib.hid sw;have HES:=Lib.hid lK;have ot : [m.eld,m.fr.s,m.fr.n,m.fr.i,m.fr.u].length=5:=rfl;clear hV bK sw ah lK e2 e3 e5 e6 e7 mU;generalize yR : [m.eld,m.fr.s,m.fr.n,m.fr.i,m.fr.u]=es at *;generalize W2.heap.size=g at *
 go_loopw [43] (fun i wr=>∃k:Nat,k<=5/\i = .int .i64 k/\Hid (Jdc w m ⟨A1,c1,A2,c2,A3,c3⟩ (l2 ++ (es.take k).flatMap (fun x=>leB 1 x.toNat)) wr)/\Hid (∀(k:Nat) (x:Int),es[k]?=some x->wr.cell? ⟨g,k,none⟩=some (.int .i64 x))/\g<wr.heap.size) (fun i _=>5-(intOf i).toNat)
 case atStart=>exact⟨0,by omega,rfl,Lib.hid (by simpa using HIV.out),HCV,ue⟩
 case round=>
  obtain⟨k,hk,rfl,hi,dj,eC⟩:=hrel
  by_cases am:k<5
  ·have hx:es[k]?=some es[k]:=List.getElem?_eq_getElem (by omega);have hb:=HES.out es[k] (List.getElem_mem (by omega));have aP:es.take (k+1)=es.take k ++ [es[k]]:=by rw [List.take_succ_eq_append_getElem (by omega)]
   generalize es[k]=x at hx hb aP;have c0:=dj.out k x hx
   have ai:(l2 ++ (es.take k).flatMap (fun x=>leB 1 x.toNat)).length<=100:=by
    have:((es.take k).flatMap (fun x=>leB 1 x.toNat)).length=(es.take k).length:=by
     generalize es.take k=q
     induction q with
     | nil=>rfl
     | cons y q ih=>rw [List.flatMap_cons,List.length_append,ih,Y4,List.length_cons];omega
    rw [List.length_append,this,List.length_take];omega
   have qU:l2 ++ (es.take (k+1)).flatMap (fun x=>leB 1 x.toNat)=(l2 ++ (es.take k).flatMap (fun x=>leB 1 x.toNat)) ++ leB 1 x.toNat:=by
    rw [aP,List.flatMap_append,List.append_assoc];simp
   have HNX:=Lib.hid qU;obtain⟨ax,ac⟩:=hb;have jr:IntKind.u64.wrap x=x:=Jfb ax (by omega);have kT:=Lib.hid (Jil HM.out hi.out (by omega) 1 1 rfl (.inl rfl) x ax (by omega));have pM:(k:Int)<5:=by omega
   clear hx aP qU ai
   go_wp2_with (go_at_call 58;go_loud (refine kT.out.mono ?_;rintro r W3 ⟨rfl,iI,dU⟩))
   go_roundw
   case rel=>exact⟨k+1,by omega,by go_num,Lib.hid (by rw [HNX.out];exact iI),Lib.hid (fun j y hy=>dU.cell (b:=g) (by omega) (dj.out j y hy)),Nat.lt_of_lt_of_le eC dU.size⟩
   case measure=>simp [intOf];omega
  ·obtain rfl:k=5:=by omega
   have bP:=hi.out;rw [show es.take 5=es from List.take_of_length_le (by omega)] at bP;have f11:=bP.c11;have f12:=bP.c12;have hn5:(l2 ++ es.flatMap (fun x=>leB 1 x.toNat)).length=17:=by rw [List.length_append,eu,<-yR];simp [Y4]
   generalize hl5:l2 ++ es.flatMap (fun x=>leB 1 x.toNat)=l5 at *;have wK:=Lib.hid bP;clear hi dj bP HCV HIV HES
   go_upto_region 14 with (first
    | (have hX:=HI6;go_at_call 58;go_loud (refine(Jil HM.out HI6.out (by rw [List.length_append,Y4];omega) 2 2 rfl (.inr (.inl rfl)) m.mf HR.out.move.2.2.1 (by have:=HR.out.move.2.2.2;omega)).mono ?_;rintro r W7 ⟨rfl,oB,hk7⟩))
    | (go_at_call 58;go_loud (refine(Jil HM.out wK.out (by omega) 2 2 rfl (.inr (.inl rfl)) m.sf HR.out.step.2.2.1 (by have:=HR.out.step.2.2.2;omega)).mono ?_;rintro r W6 ⟨rfl,oA,hz6⟩;have HI6:=Lib.hid oA;have f12':=oA.c12;clear oA)))
   have f8:W7.cell? ⟨w.heap.size,8,none⟩=some (.slice A1 m.first.length c1):=oB.c8;have HI7:=Lib.hid oB;have hn7:(l5 ++ leB 2 m.sf.toNat ++ leB 2 m.mf.toNat).length=21:=by simp [Y4,hn5]
   generalize hl7:l5 ++ leB 2 m.sf.toNat ++ leB 2 m.mf.toNat=l7 at *;clear oB f11 f12 f12' wK HI6 hk7;have gM:m.first.length<=16:=by have h1:=HR.out.old;have h2:=gn2;omega
   have ak:=HM.out.first.1;have dm:=HM.out.first.2.1;unfold maxLen at dm
   go_wp2_with fail
   refine Jo fun V7 hV7=>?_;have rs:Hid (Jdc w m ⟨A1,c1,A2,c2,A3,c3⟩ l7 V7):=by rw [hV7];exact HI7
   clear hV7 HI7 f8
   go_loopw [10,65] (fun v i wr=>∃k:Nat,k<=m.first.length/\i = .int .i64 k/\wr.ownsRow V7.heap.size 22 1 v k (wdU ((m.first.map Xh).take k))/\Below V7.heap.size V7 wr) (fun _ i _=>m.first.length-(intOf i).toNat)
   case atStart=>exact⟨0,Nat.zero_le _,rfl,World.ownsRow_nil _ _ _ _,Below.refl _ _⟩
   case round=>
    obtain⟨k,hk,rfl,ae,ab⟩:=hrel;have bu:=ab.size;obtain⟨Ao,co,rfl,ln,jm⟩:=Jv ae;unfold maxLen at jm
    by_cases am:k<m.first.length
    ·have hx:m.first[k]?=some m.first[k]:=List.getElem?_eq_getElem am;have aP:(m.first.map Xh).take (k+1)=(m.first.map Xh).take k ++ [Xh m.first[k]]:=by rw [List.take_succ_eq_append_getElem (by simpa using am),List.getElem_map]
     generalize m.first[k]=x at hx aP;obtain⟨b,off,rfl,aH,y0⟩:=(show Qc wr (nuI m.first) m.first.length A1 c1 from rs.out.im.first.later ab).get (Jx3 hx);have dS:=fun W=>Jln x W;have eZ:=Lib.hid aP;generalize Xh x=px at *;clear aP hx
     go_wp2_with (first
      | (go_at_call 62;refine(dS _).mono ?_;rintro r w1 ⟨rfl,rfl⟩)
      | (at_builtin;refine Kap rfl (.tmp 69) (.tmp 72) 141 rfl V7.heap.size 22 _ 1 4 Tryz.underlying141 Jxv rfl (by omega) (.slice Ao k co) k (wdU ((m.first.map Xh).take k)) _ 1 [.int .u32 (px:Nat)] rfl (by repeat (first|(with_reducible assumption)|refine Js ?_|refine Jy ?_ (by with_reducible assumption)|refine Kp ?_)) rfl rfl (fun j u hj=>by rw [Kw];simpa using hj) (by simp [Value.oneCell']) (by omega) (by omega) (by first|omega|(simp;omega)) ?_;intro v2 w2 ao aq;have br:=aq.size;(try simp at br)))
     go_roundw
     case rel=>exact⟨k+1,by omega,by go_num,by rw [eZ.out,Jyi];exact ao,(Jc ab _).trans aq⟩
     case measure=>simp [intOf];omega
    ·obtain rfl:k=m.first.length:=by omega
     have yS:(m.first.map Xh).length=m.first.length:=List.length_map _;rw [<-yS,List.take_length,yS] at ae;have yT:Qc wr (wdU (m.first.map Xh)) m.first.length Ao co:=Qc.own2 ae;have uj:=fun W (h:Below wr.heap.size wr W)=>Jtd (m.first.map Xh) Ao co W (by rw [yS];exact yT.later h) (by omega) (fun x hx=>by obtain⟨y,_,rfl⟩:=List.mem_map.1 hx;exact Jne y);rw [yS] at uj;have hwb:Jax (m.first.map Xh)=Je9 m.first:=by unfold Jax Je9;rw [List.flatMap_map]
     rw [hwb] at uj;have hwl:(Je9 m.first).length<=64:=by rw [Jsn];omega
     generalize hwv:Je9 m.first=wv at *;have hI9:=rs.out.later ab;have HI9:=Lib.hid hI9;clear ae yT yS hwb hI9
     go_upto_region 20 with (first
      | (go_at_call 63;go_loud (refine(uj _ (Below.refl _ _)).mono ?_;rintro r Wb ⟨⟨v,rfl,kU⟩,aH⟩;obtain⟨Ab,cb,rfl,yU⟩:=Qc.of_own kU))
      | (go_at_call 60;go_loud (refine(Jpv HM.out (HI9.out.later aH) yU (by omega) (by omega)).mono ?_;rintro r W9 ⟨rfl,hi9,hk9⟩)))
     have f9:W9.cell? ⟨w.heap.size,9,none⟩=some (.slice A2 m.step.length c2):=hi9.c9;have hrl:∀x:List Int,(Jcs x).length=2+x.length:=fun x=>by unfold Jcs;rw [List.length_append,Y4]
     have hn9:(l7 ++ Jcs wv).length<=200:=by rw [List.length_append,hrl];omega
     generalize hl9:l7 ++ Jcs wv=l9 at *;have uv:=Lib.hid hi9;have hwvH:=Lib.hid hwv;have hrlH:=Lib.hid hrl;have hl9H:=Lib.hid hl9;clear hwv hrl hl9;have cP:=Jit m.step;have dF:=HR.out.step.1;have hmo:=Jit m.move;have tX:=HR.out.move.1;clear hi9 uj yU hk9 HI9 rs
     go_upto_region 21 with (first
      | (go_at_call 64;go_loud (refine(Jjg m.step A2 c2 _ uv.out.im.step dF HR.out.step.2.1 kc.out.step).mono ?_;rintro r Wc ⟨⟨v,rfl,kU⟩,bU⟩;obtain⟨Ac,cc,rfl,yV⟩:=Qc.of_own kU))
      | (go_at_call 60;go_loud (refine(Jpv HM.out (uv.out.later bU) yV (by omega) (by omega)).mono ?_;rintro r W10 ⟨rfl,uw,hk10⟩)))
     have f10:W10.cell? ⟨w.heap.size,10,none⟩=some (.slice A3 m.move.length c3):=uw.c10;have hn10:(l9 ++ Jcs (Ja7 m.step)).length<=4000:=by rw [List.length_append,hrlH.out];omega
     generalize yX:l9 ++ Jcs (Ja7 m.step)=l10 at *;have yY:=Lib.hid yX;clear yX;have ux:=Lib.hid uw;clear uw yV hk10 uv f9
     go_upto_region 22 with (first
      | (go_at_call 64;go_loud (refine(Jjg m.move A3 c3 _ ux.out.im.move tX HR.out.move.2.1 kc.out.move).mono ?_;rintro r Wd ⟨⟨v,rfl,kU⟩,ct⟩;obtain⟨Ad,cd,rfl,yZ⟩:=Qc.of_own kU))
      | (go_at_call 60;go_loud (refine(Jpv HM.out (ux.out.later ct) yZ (by omega) (by omega)).mono ?_;rintro r W11 ⟨rfl,za,hk11⟩)))
     have pN:l10 ++ Jcs (Ja7 m.move)=Jba m:=by
      unfold Jba Ju8;rw [<-yY.out,<-hl9H.out,<-hwvH.out,<-hl7,<-hl5,<-aD,<-eb,<-yR];simp [List.append_assoc]
     rw [pN] at za;obtain⟨ef,⟨⟨Ae,ce,g0,et⟩,-,g1,-⟩,-⟩:=za;have rk:=Lib.hid et;clear et hk11 ux f10 yZ pN
     go_quiet (fail)
     go_wp2_with fail
     go_ret2
     refine⟨⟨_,_,rfl,rk.out.later ?_⟩,Jd ef ?_⟩ <;> exact Jb
end Go.Proofs.YtdgjplldlfeolaaGreatDoor
