/- Lemmas. -/
import Derived.Test.YtknfcamdfdfoeaaGreatDoorMac
import Derived.Test.YtknfcamdfdfoeaaGreatDoorZ38
import Derived.Lib.SmallJoins
import Derived.Test.YtknfcamdfdfoeaaGreatDoorZ36
import Derived.Test.YtknfcamdfdfoeaaGreatDoorZ22
import Derived.Test.YtknfcamdfdfoeaaGreatDoorZ00
set_option linter.unusedVariables false
set_option linter.unusedSimpArgs false
set_option maxRecDepth 100000
set_option maxHeartbeats 64000000
namespace Go.Proofs.YtknfcamdfdfoeaaGreatDoor
open Go.RowKit Go.Sort
structure ImA where
 A1:Option Addr
 c1:Nat
 A2:Option Addr
 c2:Nat
 A3:Option Addr
 c3:Nat
def imV (m:Im) (a:ImA):Value:= .agg #[.int .u32 m.ver,.int .u32 m.fro,.int .i64 m.eld,.int .i64 m.fr.s,.int .i64 m.fr.o,.int .i64 m.fr.n,.int .i64 m.fr.i,.int .i64 m.fr.u,.slice a.A1 m.first.length a.c1,.slice a.A2 m.step.length a.c2,.slice a.A3 m.move.length a.c3,.int .i64 m.sf,.int .i64 m.mf]
structure Jd5 (W:World) (m:Im) (a:ImA):Prop where
 first:Qc W (nuI m.first) m.first.length a.A1 a.c1
 step:J3 W m.step a.A2 a.c2
 move:J3 W m.move a.A3 a.c3
theorem Jd5.later {W W':World} {m:Im} {a:ImA} (h:Jd5 W m a) (hb:Below W.heap.size W W'):Jd5 W' m a:=⟨h.first.later hb,h.step.later hb,h.move.later hb⟩
structure Jsj (m:Im):Prop where
 ver:0<=m.ver/\m.ver<4294967296
 fro:0<=m.fro/\m.fro<4294967296
 first:∀x∈m.first,I32 x
 step:∀i∈m.step,I32 i.2
 move:∀i∈m.move,I32 i.2
theorem Jtt (m:Im) (a:ImA) (w:World):Calls Tryz.prog 93 #[imV m a] w fun r w'=>r = .returned (frV m.moves)/\Below w.heap.size w w':=by
 unfold imV frV Im.moves;dsimp only
 go_enter Tryz.func93,Tryz.ntmps93
 go_wp2_with fail
 refine bodyPost_ret (v:= .agg #[.int .i64 0,.int .i64 m.eld,.int .i64 m.fr.n,.int .i64 0,.int .i64 0]) (by simp [results,Tryz.results93,go_sem, *]) rfl ⟨rfl,?_⟩;exact Km
theorem Jmr (c:List (Int×Int)) (A:Option Addr) (cap:Nat) (f:Fr) (fuel:Int) (w:World) (hc:J3 w c A cap) (hN:∀i∈c,I32 i.2) :
  Calls Tryz.prog 92 #[.slice A c.length cap,frV f,.int .i64 fuel] w fun r w'=>r = .returned (.int .i64 (Jcj c f fuel))/\Below w.heap.size w w':=by
 have hj:=fun W h=>Jmz c A cap f W (hc.later h) hN;obtain⟨R,hR⟩:∃R,R=Jcj c f fuel:=⟨_,rfl⟩;rw [<-hR];unfold Jcj at hR;unfold Jk7 frV at *;clear hc hN;generalize (Yi c f).1.1=dep at *;generalize (Yi c f).1.2=fu at *;generalize (Yi c f).2.1=e at *;generalize (Yi c f).2.2=at_ at *
 by_cases h0:e=0
 ·subst h0
  by_cases hf:fu=fuel
  ·rw [if_neg (by simp [hf])] at hR;have tf:(fu != fuel)=false:=by simpa using hf
   exact Ubm
  ·rw [if_pos ⟨rfl,hf⟩] at hR;have tf:(fu != fuel)=true:=by simpa using hf
   exact Ubm
 ·rw [if_neg (fun h=>h0 h.1)] at hR;have te:(e == 0)=false:=by simpa using h0
  have HR:=Lib.hid hR;clear hR h0
  go_enter Tryz.func92,Tryz.ntmps92
  go_wp2_with (go_at_call 35;refine(hj _ Jb).mono ?_;rintro r w1 ⟨rfl,ac⟩)
  go_ret;exact⟨Jm HR.out.symm,Jb⟩
theorem Qc.own2 {w:World} {base:Nat} {e:TypeId} {xs:List Value} {n cap:Nat} {A:Option Addr} (h:w.ownsRow base e 1 (.slice A n cap) n xs):Qc w xs n A cap:=by
 obtain⟨A2,c2,hv,hc⟩:=Qc.of_own h;injection hv with e1 e2 e3;subst e1 e3;exact hc
structure Jf6 (W:World) (gb gk:Nat) (l:List Int):Prop where
 b:∃A cap,W.cell? ⟨gb,0,none⟩=some (.slice A l.length cap)/\Qc W (byU l) l.length A cap
 fz:W.frozen? ⟨gb,0,none⟩=false
 ok:W.cell? ⟨gk,0,none⟩=some (.bool true)
 ne:gb≠gk
theorem Jf6.lt {W:World} {gb gk:Nat} {l:List Int} (h:Jf6 W gb gk l):gb<W.heap.size/\gk<W.heap.size:=by
 obtain⟨A,cap,h1,_⟩:=h.b;exact⟨block_lt_of_cell h1,block_lt_of_cell h.ok⟩
theorem Jf6.later {W W':World} {gb gk:Nat} {l:List Int} (h:Jf6 W gb gk l) (hb:Below W.heap.size W W'):Jf6 W' gb gk l:=by
 obtain⟨A,cap,h1,h2⟩:=h.b;exact⟨⟨A,cap,Ja hb h1,h2.later hb⟩,(Jf hb _ _ h.lt.1).trans h.fz,Ja hb h.ok,h.ne⟩
def Jze (W:World) (gb gk:Nat) (l:List Int) (r:Ending) (w':World):Prop:=r = .returned (.tuple #[])/\Jf6 w' gb gk l/\J6 (fun k=>k=gb) W w'
theorem Jw7 (gb gk:Nat) (l bs:List Int) (width:Int) (n:Nat) (W:World) (h:Jf6 W gb gk l)
  (iF:∀(A:Option Addr) (cap:Nat) (W:World),Qc W (byU l) l.length A cap->Calls Tryz.prog 95 #[.slice A l.length cap,.int .i64 width,.int .u64 n] W (Y8 W (l ++ bs))) :
  Calls Tryz.prog 94 #[.int .i64 width,.int .u64 n,.pointer (some ⟨gb,0,none⟩),.pointer (some ⟨gk,0,none⟩)] W (Jze W gb gk (l ++ bs)):=by
 obtain⟨⟨A,cap,b0,hc⟩,fz,ok,ne⟩:=h;have am:=block_lt_of_cell b0;have az:=fun W' hb=>iF A cap W' (hc.later hb);clear iF hc;generalize l ++ bs=l2 at *;unfold Y8 at az
 go_enter Tryz.func94,Tryz.ntmps94
 go_wp2_with (go_at_call 95;go_loud (refine(az _ Jb).mono ?_;rintro r w2 ⟨⟨v,rfl,ae⟩,aq⟩;obtain⟨A2,c2,rfl,aY⟩:=Qc.of_own ae;have b0':=Ja aq b0;have fz':=(Jf aq gb 0 am).trans fz;have ok':=Ja aq ok))
 go_end0
 refine⟨rfl,⟨⟨A2,c2,World.cell?_setCell_same _ _ _ b0',?_⟩,(World.frozen?_setCell ..).trans fz',(Qm _ _ _ _ _ _ (Ne.symm ne)).trans ok',ne⟩,(J6.bel (S:=fun k=>k=gb) aq).setCell rfl _ _⟩;exact Qc.own2 (Kn ae (fun b hb he=>Ft) _ _)
theorem Jwn (gb gk:Nat) (l x:List Int) (A2:Option Addr) (cap2:Nat) (W:World) (h:Jf6 W gb gk l) (hx:Qc W (byU x) x.length A2 cap2) (hl:l.length<=100000) (hn:x.length<=65535) :
  Calls Tryz.prog 96 #[.slice A2 x.length cap2,.int .i64 0,.pointer (some ⟨gb,0,none⟩),.pointer (some ⟨gk,0,none⟩)] W (Jze W gb gk (l ++ Jcs x)):=by
 obtain⟨⟨A,cap,b0,hc⟩,fz,ok,ne⟩:=h;have am:=block_lt_of_cell b0;have az:=fun W' (hb:Below W.heap.size W W')=>Jq2 l x A cap A2 cap2 W' (hc.later hb) (hx.later hb) hl hn;clear hc hx;generalize l ++ Jcs x=l2 at *;unfold Y8 at az
 go_enter Tryz.func96,Tryz.ntmps96
 go_wp2_with (go_at_call 97;go_loud (refine(az _ Jb).mono ?_;rintro r w2 ⟨⟨v,rfl,ae⟩,aq⟩;obtain⟨A2,c2,rfl,aY⟩:=Qc.of_own ae;have b0':=Ja aq b0;have fz':=(Jf aq gb 0 am).trans fz;have ok':=Ja aq ok))
 go_end0
 refine⟨rfl,⟨⟨A2,c2,World.cell?_setCell_same _ _ _ b0',?_⟩,(World.frozen?_setCell ..).trans fz',(Qm _ _ _ _ _ _ (Ne.symm ne)).trans ok',ne⟩,(J6.bel (S:=fun k=>k=gb) aq).setCell rfl _ _⟩;exact Qc.own2 (Kn ae (fun b hb he=>Ft) _ _)
structure Jdc (w:World) (m:Im) (a:ImA) (l:List Int) (W:World):Prop where
 bel:Below w.heap.size w W
 st:Jf6 W (w.heap.size+1+1) (w.heap.size+1+1+1) l
 im:Jd5 W m a
 c0:W.cell? ⟨w.heap.size,0,none⟩=some (.int .u32 m.ver)
 c1:W.cell? ⟨w.heap.size,1,none⟩=some (.int .u32 m.fro)
 c2:W.cell? ⟨w.heap.size,2,none⟩=some (.int .i64 m.eld)
 c3:W.cell? ⟨w.heap.size,3,none⟩=some (.int .i64 m.fr.s)
 c5:W.cell? ⟨w.heap.size,5,none⟩=some (.int .i64 m.fr.n)
 c6:W.cell? ⟨w.heap.size,6,none⟩=some (.int .i64 m.fr.i)
 c7:W.cell? ⟨w.heap.size,7,none⟩=some (.int .i64 m.fr.u)
 c8:W.cell? ⟨w.heap.size,8,none⟩=some (.slice a.A1 m.first.length a.c1)
 c9:W.cell? ⟨w.heap.size,9,none⟩=some (.slice a.A2 m.step.length a.c2)
 c10:W.cell? ⟨w.heap.size,10,none⟩=some (.slice a.A3 m.move.length a.c3)
 c11:W.cell? ⟨w.heap.size,11,none⟩=some (.int .i64 m.sf)
 c12:W.cell? ⟨w.heap.size,12,none⟩=some (.int .i64 m.mf)
theorem Jdc.later {w:World} {m:Im} {a:ImA} {l:List Int} {W W':World} (h:Jdc w m a l W) (hb:Below W.heap.size W W'):Jdc w m a l W':=
 ⟨Jd h.bel hb,h.st.later hb,h.im.later hb,Ja hb h.c0,Ja hb h.c1,Ja hb h.c2,Ja hb h.c3,Ja hb h.c5,Ja hb h.c6,Ja hb h.c7,Ja hb h.c8,Ja hb h.c9,Ja hb h.c10,Ja hb h.c11,Ja hb h.c12⟩
theorem Jdc.put {w:World} {m:Im} {a:ImA} {l l2:List Int} {W W':World} (h0:Jd5 w m a) (h:Jdc w m a l W) (hs:Jf6 W' (w.heap.size+1+1) (w.heap.size+1+1+1) l2) (hk:J6 (fun k=>k=w.heap.size+1+1) W W'):Jdc w m a l2 W':=by
 have hb:Below w.heap.size w W':=hk.below h.bel (fun j hj=>Ua);have c:=fun(o:Nat) (v:Value) hc=>hk.cell (b:=w.heap.size) (o:=o) (v:=v) Ua hc;exact⟨hb,hs,h0.later hb,c _ _ h.c0,c _ _ h.c1,c _ _ h.c2,c _ _ h.c3,c _ _ h.c5,c _ _ h.c6,c _ _ h.c7,c _ _ h.c8,c _ _ h.c9,c _ _ h.c10,c _ _ h.c11,c _ _ h.c12⟩
theorem Jfb {n:Int} (h0:0<=n) (h1:n<18446744073709551616):IntKind.u64.wrap n=n:=by
 exact Uc8
theorem Jil {w:World} {m:Im} {a:ImA} {l:List Int} {W:World} (h0:Jd5 w m a) (h:Jdc w m a l W) (hl:l.length<=100000) (width:Nat) (wi:Int) (sH:wi=width) (hw:width=1\/width=2\/width=4) (x:Int) (hx0:0<=x) (hx:x<256 ^ width) :
  Calls Tryz.prog 94 #[.int .i64 wi,.int .u64 x,.pointer (some ⟨w.heap.size+1+1,0,none⟩),.pointer (some ⟨w.heap.size+1+1+1,0,none⟩)] W fun r w'=>r = .returned (.tuple #[])/\Jdc w m a (l ++ leB width x.toNat) w'/\J6 (fun k=>k=w.heap.size+1+1) W w':=by
 have hxx:((x.toNat:Nat):Int)=x:=Ua
 have h2:=Jw7 (w.heap.size+1+1) (w.heap.size+1+1+1) l (leB width x.toNat) width x.toNat W h.st (fun A cap W' hc=>by
  rcases hw with rfl|rfl|rfl
  ·exact Jm0 l A cap x.toNat W' hc hl Ua
  ·exact Jig l A cap x.toNat W' hc hl Ua
  ·exact Jnb l A cap x.toNat W' hc hl Ua)
 rw [hxx,<-sH] at h2;refine h2.mono ?_;rintro r w' ⟨hr,hs,hk⟩;exact⟨hr,h.put h0 hs hk,hk⟩
theorem Jpv {w:World} {m:Im} {a:ImA} {l x:List Int} {A2:Option Addr} {cap2:Nat} {W:World} (h0:Jd5 w m a) (h:Jdc w m a l W) (hx:Qc W (byU x) x.length A2 cap2) (hl:l.length<=100000) (hn:x.length<=65535) :
  Calls Tryz.prog 96 #[.slice A2 x.length cap2,.int .i64 0,.pointer (some ⟨w.heap.size+1+1,0,none⟩),.pointer (some ⟨w.heap.size+1+1+1,0,none⟩)] W fun r w'=>r = .returned (.tuple #[])/\Jdc w m a (l ++ Jcs x) w'/\J6 (fun k=>k=w.heap.size+1+1) W w':=by
 refine(Jwn (w.heap.size+1+1) (w.heap.size+1+1+1) l x A2 cap2 W h.st hx hl hn).mono ?_;rintro r w' ⟨hr,hs,hk⟩;exact⟨hr,h.put h0 hs hk,hk⟩
theorem Juu (m:Im) (a:ImA) (w:World) (hm:Jd5 w m a) (aw:Jsj m) (hr:m.Right) :
  Calls Tryz.prog 62 #[imV m a] w fun r w'=>(∃A cap,r = .returned (.tuple #[.slice A (Jba m).length cap,.bool true])/\Qc w' (byU (Jba m)) (Jba m).length A cap)/\Below w.heap.size w w':=by
 have gZ:∀(fn:Fn) (first cap:Array Value) (w:World),(Instr.makeFunc fn first cap).run Tryz.prog w = .ok (.func fn first cap) w:=fun _ _ _ _=>rfl;have pM:=Lib.run_convert_bytes_const (P:=Tryz.prog) (w.alloc (.cells #[.int .u32 m.ver,.int .u32 m.fro,.int .i64 m.eld,.int .i64 m.fr.s,.int .i64 m.fr.o,.int .i64 m.fr.n,.int .i64 m.fr.i,.int .i64 m.fr.u,.slice a.A1 m.first.length a.c1,.slice a.A2 m.step.length a.c2,.slice a.A3 m.move.length a.c3,.int .i64 m.sf,.int .i64 m.mf] 43)) 98 5 #[.int .u8 77,.int .u8 73,.int .u8 68,.int .u8 83] 4 4 Tryz.underlying98 Tryz.underlying5;rw [show(w.alloc (.cells #[.int .u32 m.ver,.int .u32 m.fro,.int .i64 m.eld,.int .i64 m.fr.s,.int .i64 m.fr.o,.int .i64 m.fr.n,.int .i64 m.fr.i,.int .i64 m.fr.u,.slice a.A1 m.first.length a.c1,.slice a.A2 m.step.length a.c2,.slice a.A3 m.move.length a.c3,.int .i64 m.sf,.int .i64 m.mf] 43)).heap.size=w.heap.size+1 by simp] at pM;have fm:=Fr.good_iff.1 hr.fr;obtain⟨⟨gs1,gs2⟩,⟨go1,go2⟩,⟨gn1,gn2⟩,⟨gi1,gi2⟩,gu1,gu2⟩:=fm;have fC:IntKind.u64.wrap m.ver=m.ver:=Jfb aw.ver.1 (by have:=aw.ver.2;omega);have aI:IntKind.u64.wrap m.fro=m.fro:=Jfb aw.fro.1 (by have:=aw.fro.2;omega);have iM:IntKind.u64.wrap m.sf=m.sf:=Jfb hr.step.2.2.1 (by have:=hr.step.2.2.2;omega);have hv4:IntKind.u64.wrap m.mf=m.mf:=Jfb hr.move.2.2.1 (by have:=hr.move.2.2.2;omega);have HM:=Lib.hid hm;have kc:=Lib.hid aw;have HR:=Lib.hid hr;clear hm aw hr;obtain⟨A1,c1,A2,c2,A3,c3⟩:=a;unfold imV;dsimp only at *
 go_enter Tryz.func62,Tryz.ntmps62
 go_upto_region 4 with fail
 refine Jo fun W0 ag=>?_
 have kF:Jdc w m ⟨A1,c1,A2,c2,A3,c3⟩ [77,73,68,83] W0:=by
  refine⟨?_,⟨⟨some ⟨w.heap.size+1,0,none⟩,4,?_,?_⟩,?_,?_,Ua⟩,?_,?_,?_,?_,?_,?_,?_,?_,?_,?_,?_,?_,?_⟩
  ·exact Uo
  ·exact Uc
  ·refine⟨Nat.le_refl _,U2,rfl,fun _=>⟨w.heap.size+1,0,rfl,fun j u hj=>?_⟩⟩;have mX:=(List.getElem?_eq_some_iff.1 hj).1;rw [Ji3] at mX;rw [ag];simp only [List.length_cons,List.length_nil] at mX
   rcases(by omega:j=0\/j=1\/j=2\/j=3) with rfl|rfl|rfl|rfl <;> (simp [byU] at hj;subst hj;go_simp;rw [Go.Joins.cell_alloc_mark_at _ _ _ _ _ _ Ul];rfl)
  ·exact Uc
  ·exact Uc
  ·exact HM.out.later Uo
  all_goals (rw [ag];go_simp)
 have sy:=Lib.hid kF;have HZ0:=kF.bel.size;have d0:=kF.c0;have d1:=kF.c1;clear kF ag pM gZ;generalize eb:([77,73,68,83]:List Int)=l0 at *;have bg:l0.length=4:=by rw [<-eb];rfl
 go_upto_region 6 with (first
  | (have hX:=qT;go_at_call 94;go_loud (refine(Jil HM.out qT.out (by rw [List.length_append,Y4];omega) 4 4 rfl (.inr (.inr rfl)) m.fro kc.out.fro.1 kc.out.fro.2).mono ?_;rintro r W2 ⟨rfl,dR,br⟩))
  | (go_at_call 94;go_loud (refine(Jil HM.out sy.out Ua 4 4 rfl (.inr (.inr rfl)) m.ver kc.out.ver.1 kc.out.ver.2).mono ?_;rintro r W1 ⟨rfl,dN,af⟩;have qT:=Lib.hid dN;have d1':=dN.c1;clear dN)))
 have e2:=dR.c2;have e3:=dR.c3;have e5:=dR.c5;have e6:=dR.c6;have e7:=dR.c7;have mU:=Lib.hid dR;clear dR d0 d1 d1' sy qT;have eu:(l0 ++ leB 4 m.ver.toNat ++ leB 4 m.fro.toNat).length=12:=by simp [Y4,bg]
 generalize aD:l0 ++ leB 4 m.ver.toNat ++ leB 4 m.fro.toNat=l2 at *
 have lK:∀x∈[m.eld,m.fr.s,m.fr.n,m.fr.i,m.fr.u],0<=x/\x<256:=by
  have:=HR.out.eld;intro x hx;simp only [List.mem_cons,List.not_mem_nil,or_false] at hx;exact Ua
 go_wp2_with fail
 refine Jo fun V hV=>?_;have bK:Below W2.heap.size W2 V:=by rw [hV];exact Jc (Below.refl _ _) _
 have sw:=mU.out.later bK
 have ah:∀(k:Nat) (x:Int),[m.eld,m.fr.s,m.fr.n,m.fr.i,m.fr.u][k]?=some x->V.cell? ⟨W2.heap.size,k,none⟩=some (.int .i64 x):=by
  intro k x hx;have fR:=(List.getElem?_eq_some_iff.1 hx).1;simp only [List.length_cons,List.length_nil] at fR;rw [hV]
  rcases(by omega:k=0\/k=1\/k=2\/k=3\/k=4) with rfl|rfl|rfl|rfl|rfl <;> (simp at hx;subst hx;go_simp)
 have eT:w.heap.size+1+1<W2.heap.size:=by have:=mU.out.st.lt;omega
 have ue:W2.heap.size<V.heap.size:=Sc;have HCV:=Lib.hid ah;have HIV:=Lib.hid sw;have HES:=Lib.hid lK;have ot : [m.eld,m.fr.s,m.fr.n,m.fr.i,m.fr.u].length=5:=rfl;clear hV bK sw ah lK e2 e3 e5 e6 e7 mU;generalize yR : [m.eld,m.fr.s,m.fr.n,m.fr.i,m.fr.u]=es at *;generalize W2.heap.size=g at *
 go_loopw [43] (fun i wr=>∃k:Nat,k<=5/\i = .int .i64 k/\Hid (Jdc w m ⟨A1,c1,A2,c2,A3,c3⟩ (l2 ++ (es.take k).flatMap (fun x=>leB 1 x.toNat)) wr)/\Hid (∀(k:Nat) (x:Int),es[k]?=some x->wr.cell? ⟨g,k,none⟩=some (.int .i64 x))/\g<wr.heap.size) (fun i _=>5-(intOf i).toNat)
 case atStart=>exact⟨0,Ua,rfl,Lib.hid (by simpa using HIV.out),HCV,ue⟩
 case round=>
  obtain⟨k,hk,rfl,hi,dj,eC⟩:=hrel
  by_cases am:k<5
  ·have hx:es[k]?=some es[k]:=List.getElem?_eq_getElem Ua;have hb:=HES.out es[k] (List.getElem_mem Ua);have aP:es.take (k+1)=es.take k ++ [es[k]]:=by rw [List.take_succ_eq_append_getElem Ua]
   generalize es[k]=x at hx hb aP;have c0:=dj.out k x hx
   have ai:(l2 ++ (es.take k).flatMap (fun x=>leB 1 x.toNat)).length<=100:=by
    have:((es.take k).flatMap (fun x=>leB 1 x.toNat)).length=(es.take k).length:=by
     generalize es.take k=q
     induction q with
     | nil=>rfl
     | cons y q ih=>rw [List.flatMap_cons,List.length_append,ih,Y4,List.length_cons];omega
    rw [List.length_append,this,List.length_take];omega
   have qU:l2 ++ (es.take (k+1)).flatMap (fun x=>leB 1 x.toNat)=(l2 ++ (es.take k).flatMap (fun x=>leB 1 x.toNat)) ++ leB 1 x.toNat:=by
    rw [aP,List.flatMap_append,List.append_assoc];simp
   have HNX:=Lib.hid qU;obtain⟨ax,ac⟩:=hb;have jr:IntKind.u64.wrap x=x:=Jfb ax Ua;have kT:=Lib.hid (Jil HM.out hi.out Ua 1 1 rfl (.inl rfl) x ax Ua);have pM:(k:Int)<5:=Ua;clear hx aP qU ai
   go_wp2_with (go_at_call 94;go_loud (refine kT.out.mono ?_;rintro r W3 ⟨rfl,iI,dU⟩))
   go_roundw
   case rel=>exact⟨k+1,Ua,Up,Lib.hid (by rw [HNX.out];exact iI),Lib.hid (fun j y hy=>dU.cell (b:=g) Ua (dj.out j y hy)),Nat.lt_of_lt_of_le eC dU.size⟩
   case measure=>simp [intOf];omega
  ·obtain rfl:k=5:=Ua;have bP:=hi.out;rw [show es.take 5=es from List.take_of_length_le Ua] at bP;have f11:=bP.c11;have f12:=bP.c12;have hn5:(l2 ++ es.flatMap (fun x=>leB 1 x.toNat)).length=17:=by rw [List.length_append,eu,<-yR];simp [Y4]
   generalize hl5:l2 ++ es.flatMap (fun x=>leB 1 x.toNat)=l5 at *;have wK:=Lib.hid bP;clear hi dj bP HCV HIV HES
   go_upto_region 14 with (first
    | (have hX:=HI6;go_at_call 94;go_loud (refine(Jil HM.out HI6.out (by rw [List.length_append,Y4];omega) 2 2 rfl (.inr (.inl rfl)) m.mf HR.out.move.2.2.1 (by have:=HR.out.move.2.2.2;omega)).mono ?_;rintro r W7 ⟨rfl,oB,hk7⟩))
    | (go_at_call 94;go_loud (refine(Jil HM.out wK.out Ua 2 2 rfl (.inr (.inl rfl)) m.sf HR.out.step.2.2.1 (by have:=HR.out.step.2.2.2;omega)).mono ?_;rintro r W6 ⟨rfl,oA,hz6⟩;have HI6:=Lib.hid oA;have f12':=oA.c12;clear oA)))
   have f8:W7.cell? ⟨w.heap.size,8,none⟩=some (.slice A1 m.first.length c1):=oB.c8;have HI7:=Lib.hid oB;have hn7:(l5 ++ leB 2 m.sf.toNat ++ leB 2 m.mf.toNat).length=21:=by simp [Y4,hn5]
   generalize hl7:l5 ++ leB 2 m.sf.toNat ++ leB 2 m.mf.toNat=l7 at *;clear oB f11 f12 f12' wK HI6 hk7;have gM:m.first.length<=16:=by have h1:=HR.out.old;have h2:=gn2;omega
   have ak:=HM.out.first.1;have dm:=HM.out.first.2.1;unfold maxLen at dm
   go_wp2_with fail
   refine Jo fun V7 hV7=>?_;have rs:Hid (Jdc w m ⟨A1,c1,A2,c2,A3,c3⟩ l7 V7):=by rw [hV7];exact HI7
   clear hV7 HI7 f8
   go_loopw [10,65] (fun v i wr=>∃k:Nat,k<=m.first.length/\i = .int .i64 k/\wr.ownsRow V7.heap.size 40 1 v k (wdU ((m.first.map Xh).take k))/\Below V7.heap.size V7 wr) (fun _ i _=>m.first.length-(intOf i).toNat)
   case atStart=>exact⟨0,Nat.zero_le _,rfl,World.ownsRow_nil _ _ _ _,Below.refl _ _⟩
   case round=>
    obtain⟨k,hk,rfl,ae,ab⟩:=hrel;have bu:=ab.size;obtain⟨Ao,co,rfl,ln,jm⟩:=Jv ae;unfold maxLen at jm
    by_cases am:k<m.first.length
    ·have hx:m.first[k]?=some m.first[k]:=List.getElem?_eq_getElem am;have aP:(m.first.map Xh).take (k+1)=(m.first.map Xh).take k ++ [Xh m.first[k]]:=by rw [List.take_succ_eq_append_getElem (by simpa using am),List.getElem_map]
     generalize m.first[k]=x at hx aP;obtain⟨b,off,rfl,aH,y0⟩:=(show Qc wr (nuI m.first) m.first.length A1 c1 from rs.out.im.first.later ab).get (Jx3 hx);have dS:=fun W=>Jln x W;have eZ:=Lib.hid aP;generalize Xh x=px at *;clear aP hx
     go_wp2_with (first
      | (go_at_call 98;refine(dS _).mono ?_;rintro r w1 ⟨rfl,rfl⟩)
      | (at_builtin;refine K2 rfl (.tmp 69) (.tmp 72) 173 rfl V7.heap.size 40 _ 1 4 Tryz.underlying173 Jxv rfl Ua (.slice Ao k co) k (wdU ((m.first.map Xh).take k)) _ 1 [.int .u32 (px:Nat)] rfl Udk rfl rfl (fun j u hj=>U9) Uv Ua Ua U7 ?_;intro v2 w2 ao aq;have br:=aq.size;(try simp at br)))
     go_roundw
     case rel=>exact⟨k+1,Ua,Up,by rw [eZ.out,Jyi];exact ao,(Jc ab _).trans aq⟩
     case measure=>simp [intOf];omega
    ·obtain rfl:k=m.first.length:=Ua;have yS:(m.first.map Xh).length=m.first.length:=List.length_map _;rw [<-yS,List.take_length,yS] at ae;have yT:Qc wr (wdU (m.first.map Xh)) m.first.length Ao co:=Qc.own2 ae;have uj:=fun W (h:Below wr.heap.size wr W)=>Jtd (m.first.map Xh) Ao co W (by rw [yS];exact yT.later h) Ua (fun x hx=>by obtain⟨y,_,rfl⟩:=List.mem_map.1 hx;exact Jne y);rw [yS] at uj;have hwb:Jax (m.first.map Xh)=Je9 m.first:=by unfold Jax Je9;rw [List.flatMap_map]
     rw [hwb] at uj;have hwl:(Je9 m.first).length<=64:=by rw [Jsn];omega
     generalize hwv:Je9 m.first=wv at *;have hI9:=rs.out.later ab;have HI9:=Lib.hid hI9;clear ae yT yS hwb hI9
     go_upto_region 20 with (first
      | (go_at_call 99;go_loud (refine(uj _ (Below.refl _ _)).mono ?_;rintro r Wb ⟨⟨v,rfl,kU⟩,aH⟩;obtain⟨Ab,cb,rfl,yU⟩:=Qc.of_own kU))
      | (go_at_call 96;go_loud (refine(Jpv HM.out (HI9.out.later aH) yU Ua Ua).mono ?_;rintro r W9 ⟨rfl,hi9,hk9⟩)))
     have f9:W9.cell? ⟨w.heap.size,9,none⟩=some (.slice A2 m.step.length c2):=hi9.c9;have hrl:∀x:List Int,(Jcs x).length=2+x.length:=fun x=>by unfold Jcs;rw [List.length_append,Y4]
     have hn9:(l7 ++ Jcs wv).length<=200:=by rw [List.length_append,hrl];omega
     generalize hl9:l7 ++ Jcs wv=l9 at *;have uv:=Lib.hid hi9;have hwvH:=Lib.hid hwv;have hrlH:=Lib.hid hrl;have hl9H:=Lib.hid hl9;clear hwv hrl hl9;have cP:=Jit m.step;have dF:=HR.out.step.1;have hmo:=Jit m.move;have tX:=HR.out.move.1;clear hi9 uj yU hk9 HI9 rs
     go_upto_region 21 with (first
      | (go_at_call 100;go_loud (refine(Jjg m.step A2 c2 _ uv.out.im.step dF HR.out.step.2.1 kc.out.step).mono ?_;rintro r Wc ⟨⟨v,rfl,kU⟩,bU⟩;obtain⟨Ac,cc,rfl,yV⟩:=Qc.of_own kU))
      | (go_at_call 96;go_loud (refine(Jpv HM.out (uv.out.later bU) yV Ua Ua).mono ?_;rintro r W10 ⟨rfl,uw,hk10⟩)))
     have f10:W10.cell? ⟨w.heap.size,10,none⟩=some (.slice A3 m.move.length c3):=uw.c10;have hn10:(l9 ++ Jcs (Ja7 m.step)).length<=4000:=by rw [List.length_append,hrlH.out];omega
     generalize yX:l9 ++ Jcs (Ja7 m.step)=l10 at *;have yY:=Lib.hid yX;clear yX;have ux:=Lib.hid uw;clear uw yV hk10 uv f9
     go_upto_region 22 with (first
      | (go_at_call 100;go_loud (refine(Jjg m.move A3 c3 _ ux.out.im.move tX HR.out.move.2.1 kc.out.move).mono ?_;rintro r Wd ⟨⟨v,rfl,kU⟩,ct⟩;obtain⟨Ad,cd,rfl,yZ⟩:=Qc.of_own kU))
      | (go_at_call 96;go_loud (refine(Jpv HM.out (ux.out.later ct) yZ Ua Ua).mono ?_;rintro r W11 ⟨rfl,za,hk11⟩)))
     have pN:l10 ++ Jcs (Ja7 m.move)=Jba m:=by
      unfold Jba Ju8;rw [<-yY.out,<-hl9H.out,<-hwvH.out,<-hl7,<-hl5,<-aD,<-eb,<-yR];simp [List.append_assoc]
     rw [pN] at za;obtain⟨ef,⟨⟨Ae,ce,g0,et⟩,-,g1,-⟩,-⟩:=za;have rk:=Lib.hid et;clear et hk11 ux f10 yZ pN
     go_quiet (fail)
     go_wp2_with fail
     go_ret2
     refine⟨⟨_,_,rfl,rk.out.later ?_⟩,Jd ef ?_⟩ <;> exact Jb
theorem Jqe (m:Im) (a:ImA) (w:World) (hm:Jd5 w m a) (aw:Jsj m) :
  Calls Tryz.prog 61 #[imV m a] w fun r w'=>r = .returned (.int .i64 m.wrong)/\Below w.heap.size w w':=by
 have ac:=fun W (h:Below w.heap.size w W)=>Jmr m.step a.A2 a.c2 m.fr m.sf W (hm.step.later h) aw.step;have aq:=fun W (h:Below w.heap.size w W)=>Jmr m.move a.A3 a.c3 m.moves m.mf W (hm.move.later h) aw.move;have hmv:=fun W=>Jtt m a W;have ak:=hm.first.1;have kE:=hm.move.1;obtain⟨R,hR⟩:∃R,R=m.wrong:=⟨_,rfl⟩;rw [<-hR];unfold Im.wrong at hR;obtain⟨A1,c1,A2,c2,A3,c3⟩:=a;unfold imV at *;unfold frV at ac aq hmv;dsimp only at *;generalize Jcj m.step m.fr m.sf=e1 at *;generalize Jcj m.move m.moves m.mf=e2 at *;generalize m.moves=mv at *;have HB1:=Lib.hid ac;have HB2:=Lib.hid aq;have HMV:=Lib.hid hmv;clear hm aw ac aq hmv
 by_cases a1:m.ver=0
 ·have hv:R=1:=by rw [hR,if_pos (.inl a1)]
  have t1:(m.ver == 0)=true:=by simpa using a1
  exact Ub4
 have t1:(m.ver == 0)=false:=by simpa using a1
 by_cases a2:m.ver<=m.fro
 ·have hv:R=1:=by rw [hR,if_pos (.inr (.inl a2))]
  exact Ub4
 by_cases a3:m.eld<0
 ·have hv:R=1:=by rw [hR,if_pos (.inr (.inr (.inl a3)))]
  exact Ub4
 by_cases a4:16<m.eld
 ·have hv:R=1:=by rw [hR,if_pos (.inr (.inr (.inr a4)))]
  exact Ub4
 rw [if_neg Ua] at hR
 by_cases b1:m.fr.o≠m.fr.n
 ·have hv:R=1:=by rw [hR,if_pos (.inl b1)]
  have t2:(m.fr.o != m.fr.n)=true:=by simpa using b1
  clear hR a1 b1;exact Uci
 have t2:(m.fr.o != m.fr.n)=false:=by simpa using b1
 by_cases b2:(m.first.length:Int)≠m.fr.n
 ·have hv:R=1:=by rw [hR,if_pos (.inr b2)]
  have t3:((m.first.length:Int) != m.fr.n)=true:=by simpa using b2
  clear hR a1 b1 b2;exact Uci
 have t3:((m.first.length:Int) != m.fr.n)=false:=by simpa using b2
 rw [if_neg Ua] at hR;clear a1 b1 b2
 by_cases f0:m.fro=0
 ·have t4:(m.fro == 0)=true:=by simpa using f0
  by_cases d1:0<m.eld
  ·have hv:R=1:=by rw [hR,if_pos ⟨f0,.inl d1⟩]
   clear hR f0;exact Uci
  by_cases d2:0<m.move.length
  ·have hv:R=1:=by rw [hR,if_pos ⟨f0,.inr d2⟩]
   have d2':(0:Int)<(m.move.length:Int):=Ua;clear hR f0 d2;exact Uci
  have d2':¬(0:Int)<(m.move.length:Int):=Ua;rw [if_neg (fun h=>Ua)] at hR;clear f0 d2;exact Tj
 ·have t4:(m.fro == 0)=false:=by simpa using f0
  rw [if_neg (fun h=>f0 h.1)] at hR;clear f0;exact Tj
end Go.Proofs.YtknfcamdfdfoeaaGreatDoor
namespace Go.Proofs.YtknfcamdfdfoeaaGreatDoor
open Go.RowKit Go.Sort Go.Maps Go.ChangeMaps Go.WideMaps
def frT (x:Int×Int×Int×Int×Int):Value:= .agg #[.int .i64 x.1,.int .i64 x.2.1,.int .i64 x.2.2.1,.int .i64 x.2.2.2.1,.int .i64 x.2.2.2.2]
theorem Jbb {p:Pr} (h:(Kf p).2=(0,0,0)):Ks p=(0,0,0)/\¬16<(Jq p).length:=by
 unfold Kf at h
 by_cases hs:Ks p=(0,0,0)
 ·rw [if_pos hs] at h;refine⟨hs,fun hb=>?_⟩;rw [if_pos hb] at h;exact absurd (show((4:Int),(0:Int),(3:Int))=(0,0,0) from h) Ux
 ·rw [if_neg hs] at h;exact absurd h hs
theorem Jof (p:Pr) (a:PrA) (w:World) (hg:Ql w) (hp:Kr w p a) (aw:Q4 p) (n1:p.ins.length<=1000000) (n2:p.outs.length<=1000000) (n3:p.locals.length<=1000000) (n4:p.eqs.length<=1000000) :
  Calls Tryz.prog 8 #[prV p a] w fun r w'=>(∃A cap,r = .returned (.tuple #[.slice A (Xg p).1.length cap,frT (Xg p).2.1,fV (Xg p).2.2])/\J3 w' (Xg p).1 A cap/\∀b off,A=some ⟨b,off,none⟩->w.heap.size<=b)/\Below w.heap.size w w':=by
 by_cases h:(Kf p).2=(0,0,0)
 ·obtain⟨hS,hb⟩:=Jbb h;refine(Jo3 p a w hg hp aw n1 n2 n3 n4 hS hb).mono ?_;rintro r w' ⟨hc,ab⟩;refine⟨?_,ab⟩;unfold Xg;rw [if_pos h]
  by_cases h6:600<(Xs p).length
  ·rw [if_pos h6] at hc;rw [if_pos h6];exact⟨none,0,hc,Jar _,fun b off h=>by cases h⟩
  ·rw [if_neg h6] at hc;rw [if_neg h6];obtain⟨v,hr,ae⟩:=hc;obtain⟨A,cap,rfl,aY⟩:=J3.of_own ae;exact⟨A,cap,hr,aY,fun b off h=>(ae.lt b Sl).1⟩
 ·refine(Jrb p a w hg hp aw n1 n2 n3 n4 h).mono ?_;rintro r w' ⟨hr,ab⟩;refine⟨?_,ab⟩;unfold Xg;rw [if_neg h];exact⟨none,0,hr,Jar _,fun b off h=>by cases h⟩
theorem Jos (m:Im) (a:ImA) (w:World) (hm:Jd5 w m a) (aw:Jsj m) :
  Calls Tryz.prog 36 #[imV m a] w fun r w'=>(∃A cap,r = .returned (.tuple #[.slice A (Jdl m).1.length cap,.int .i64 (Jdl m).2]))/\Below w.heap.size w w':=by
 have aN:=fun W (h:Below w.heap.size w W)=>Jqe m a W (hm.later h) aw
 by_cases hw:m.wrong=0
 ·have hl:=fun W (h:Below w.heap.size w W)=>Juu m a W (hm.later h) aw (Im.right hw);rw [hw] at aN
  by_cases hb:2016<(Jba m).length
  ·have hv:Jdl m=([],3):=by unfold Jdl;rw [if_neg (fun h=>h hw),if_pos hb]
   have tb:(2016:Int)<((Jba m).length:Int):=Ua;rw [hv];obtain⟨A1,c1,A2,c2,A3,c3⟩:=a;unfold imV at *;dsimp only at *;generalize (Jba m).length=n at *;clear hm aw hw hb hv
   go_enter Tryz.func36,Tryz.ntmps36
   go_wp2_with (first
    | (go_at_call 61;go_loud (refine(aN _ Jb).mono ?_;rintro r w1 ⟨rfl,ac⟩;have k0:=Jg ac))
    | (go_at_call 62;go_loud (refine(hl _ Jb).mono ?_;rintro r w2 ⟨⟨A,cap,rfl,-⟩,aq⟩)))
   go_ret2
   exact⟨⟨none,0,rfl⟩,Jb⟩
  ·have hv:Jdl m=(Jba m,0):=by unfold Jdl;rw [if_neg (fun h=>h hw),if_neg hb]
   have tb:¬(2016:Int)<((Jba m).length:Int):=Ua;rw [hv];obtain⟨A1,c1,A2,c2,A3,c3⟩:=a;unfold imV at *;dsimp only at *;generalize (Jba m).length=n at *;clear hm aw hw hb hv
   go_enter Tryz.func36,Tryz.ntmps36
   go_wp2_with (first
    | (go_at_call 61;go_loud (refine(aN _ Jb).mono ?_;rintro r w1 ⟨rfl,ac⟩;have k0:=Jg ac))
    | (go_at_call 62;go_loud (refine(hl _ Jb).mono ?_;rintro r w2 ⟨⟨A,cap,rfl,-⟩,aq⟩)))
   go_ret2
   exact⟨⟨A,cap,rfl⟩,Jb⟩
 ·have hv:Jdl m=([],m.wrong):=by unfold Jdl;rw [if_pos hw]
  have tw:(m.wrong != 0)=true:=by simpa using hw
  rw [hv];obtain⟨A1,c1,A2,c2,A3,c3⟩:=a;unfold imV at *;dsimp only at *;generalize m.wrong=e at *;clear hm aw hw hv
  go_enter Tryz.func36,Tryz.ntmps36
  go_wp2_with (go_at_call 61;go_loud (refine(aN _ Jb).mono ?_;rintro r w1 ⟨rfl,ac⟩))
  go_ret2
  exact⟨⟨none,0,rfl⟩,Jb⟩
end Go.Proofs.YtknfcamdfdfoeaaGreatDoor
namespace Go.Proofs.YtknfcamdfdfoeaaGreatDoor
open Go.RowKit
def Kt (c:List (Int×Int)):Prop:=∀i∈c,I32 i.2
theorem Kt.app {a b:List (Int×Int)} (ha:Kt a) (hb:Kt b):Kt (a ++ b):=fun i hi=>by
 rcases List.mem_append.1 hi with h|h
 ·exact ha i h
 ·exact hb i h
theorem Kt.nil:Kt []:=fun i hi=>by cases hi
theorem Kt.cons {op n:Int} {l:List (Int×Int)} (h:I32 n) (hl:Kt l):Kt ((op,n) :: l):=fun i hi=>by
 rcases List.mem_cons.1 hi with rfl|hi
 ·exact h
 ·exact hl i hi
theorem Jey {n:Nat} (h:n<=1000000):I32 (n:Int):=Vh
section
variable {sl:ByteArray->Int} {fl:Int×ByteArray->Int}
theorem Kt.choice {v a b:List (Int×Int)} (hv:Kt v) (ha:Kt a) (hb:Kt b) (la:a.length<=100000) (lb:b.length<=100000):Kt (Yv v a b):=by
 unfold Yv;exact(((hv.app (Kt.cons Vh Kt.nil)).app ha).app (Kt.cons Vh Kt.nil)).app hb
theorem Jyx (dF:∀s,I32 (sl s)) (gM:∀c,I32 (fl c)) (e:Ex):e.OK->e.size<=120->∀c,Kt (e.gen sl fl c):=by
 induction e using Ex.ind with
 | h e ih=>
  intro ho hz c;have hn:I32 e.n:=by cases e;simp only [Ex.OK] at ho;exact ho.2.1
  have hp:∀j,Kt ((Ex.genL sl fl e.kind e.name c 0 e.sub).getD j [])/\((Ex.genL sl fl e.kind e.name c 0 e.sub).getD j []).length<=100000:=by
   intro j
   by_cases hj:j<e.sub.length
   ·have hx:e.sub[j]?=some e.sub[j]:=List.getElem?_eq_getElem hj;have hm:e.sub[j]∈e.sub:=List.getElem_mem hj;generalize e.sub[j]=x at hx hm;have h2:=Ex.size_sub hx;rw [Ex.genL_get sl fl e.kind e.name c e.sub 0 j x hx];have h4:=Ex.gen_len sl fl x (K4 e.kind e.name c (0+j));exact⟨ih x hm (Ex.OK_sub ho hm) Ua _,Ua⟩
   ·have:(Ex.genL sl fl e.kind e.name c 0 e.sub).getD j [] = []:=by
     rw [List.getD_eq_getElem?_getD,List.getElem?_eq_none (by rw [Ex.genL_len];omega)];rfl
    rw [this];exact⟨Kt.nil,Ul⟩
  rw [Ex.gen_eq];generalize Ex.genL sl fl e.kind e.name c 0 e.sub=ps at hp;unfold Jae;have one:∀(op n:Int),I32 n->Kt [(op,n)]:=fun op n h=>Kt.cons h Kt.nil
  split
  ·exact one _ _ (dF _)
  split
  ·exact(hp 0).1.app (one _ _ hn)
  split
  ·exact((hp 0).1.app (hp 1).1).app (one _ _ hn)
  split
  ·exact(hp 0).1.choice (hp 1).1 (hp 2).1 (hp 1).2 (hp 2).2
  split
  ·exact(one _ _ (gM c)).choice (hp 1).1 (hp 0).1 (hp 1).2 (hp 0).2
  split
  ·exact(hp 0).1
  split
  ·exact(one _ _ (dF _)).choice (hp 0).1 (hp 1).1 (hp 0).2 (hp 1).2
  ·exact one _ _ hn
theorem Kt.under (dF:∀s,I32 (sl s)) {c:Int×ByteArray} {x:List (Int×Int)} (hx:Kt x) (lx:x.length<=100000):Kt (Qk sl c x):=by
 unfold Qk;have hl:I32 (x.length:Int):=Jey Ua
 split
 ·exact(Kt.cons (dF _) (Kt.cons hl Kt.nil)).app hx
 ·split
  ·exact(Kt.cons (dF _) (Kt.cons Vh (Kt.cons hl Kt.nil))).app hx
  ·exact hx
theorem Jq8 (dF:∀s,I32 (sl s)):∀(l:List Va) (i:Nat),i+l.length<=100000->Kt (Yh sl i l)
 | [],i,_=>Kt.nil
 | v :: r,i,h=>by
  rw [List.length_cons] at h;rw [Yh];exact(Kt.cons (Jey Ua) (Kt.cons (dF _) Kt.nil)).app (Jq8 dF r (i+1) Ua)
theorem Jro (dF:∀s,I32 (sl s)):∀(l:List Qe) (i:Nat),i+l.length<=100000->Kt (Zx sl i l)
 | [],i,_=>Kt.nil
 | v :: r,i,h=>by
  rw [List.length_cons] at h;rw [Zx];exact(Kt.cons (Jey Ua) (Kt.cons (dF _) Kt.nil)).app (Jro dF r (i+1) Ua)
theorem Jri (dF:∀s,I32 (sl s)):∀(l:List Va) (i:Nat),i+l.length<=100000->Kt (Xl sl i l)
 | [],i,_=>Kt.nil
 | v :: r,i,h=>by
  rw [List.length_cons] at h;rw [Xl];exact(Kt.cons (dF _) (Kt.cons (Jey Ua) Kt.nil)).app (Jri dF r (i+1) Ua)
theorem Jrj (dF:∀s,I32 (sl s)):∀(l:List Ce) (i:Nat),i+l.length<=100000->Kt (Ze sl i l)
 | [],i,_=>Kt.nil
 | v :: r,i,h=>by
  rw [List.length_cons] at h;rw [Ze];exact(Kt.under dF (Kt.cons Vh (Kt.cons (Jey Ua) Kt.nil)) Ul).app (Jrj dF r (i+1) Ua)
theorem Jrf {L:List Va} (dF:∀s,I32 (sl s)):∀(l:List Qe) (i:Nat),(∀q∈l,∀c,Kt (q.e.gen sl fl c)/\(q.e.gen sl fl c).length<=360)->i+l.length<=100000->Kt (Zu sl fl L i l)
 | [],i,_,_=>Kt.nil
 | q :: r,i,hq,h=>by
  rw [List.length_cons] at h;rw [Zu];obtain⟨g1,g2⟩:=hq q Ul (J9 L q.name);exact(Kt.under dF (g1.app (Kt.cons (Jey Ua) Kt.nil)) Uj).app (Jrf dF r (i+1) (fun x hx=>hq x Fz) Ua)
theorem Jrd {L:List Va} {eqs:List Qe} (dF:∀s,I32 (sl s)) (hq:∀q∈eqs,∀c,Kt (q.e.gen sl fl c)/\(q.e.gen sl fl c).length<=360):∀l:List Int,Kt (Xd sl fl L eqs l)
 | []=>Kt.nil
 | j :: r=>by
  rw [Xd];refine Kt.app ?_ (Jrd dF hq r)
  cases hx:eqs[j.toNat]? with
  | none=>exact Kt.nil
  | some q=>
   obtain⟨g1,g2⟩:=hq q (List.mem_of_getElem? hx) (J9 L q.name);exact Kt.under dF (g1.app (Kt.cons (dF _) Kt.nil)) Uj
end
theorem Jwf (L:List Va) (hl:L.length<=100000) (s:ByteArray):I32 (Xu L s):=by
 rcases Nat.eq_zero_or_pos L.length with h|h
 ·have:L = []:=List.eq_nil_of_length_eq_zero h;subst this;have:Xu [] s=0:=rfl;rw [this];unfold I32;omega
 ·have:=Jtl L s h;exact Vh
theorem Jwd (l:List Ce) (hl:l.length<=100000) (d:Int×ByteArray):I32 (Kg l d):=by
 rcases Jf3 d l 0 with h|h
 ·unfold Kg;rw [h];unfold I32;omega
 ·unfold Kg I32;omega
theorem Jvr {p:Pr} (h:Jay p) (aw:Q4 p) (hb:¬16<(Jq p).length):∀i∈Xs p,I32 i.2:=by
 have jN:=h.small;have dF:=Jwf (Je p) Ua;have gM:=Jwd (Jq p) Ua
 have hq:∀q∈p.eqs,∀c,Kt (q.e.gen (Xu (Je p)) (Kg (Jq p)) c)/\(q.e.gen (Xu (Je p)) (Kg (Jq p)) c).length<=360:=fun q hq c=>
  ⟨Jyx dF gM q.e (aw.eqs q hq).2.2.2 (h.eqs q hq).size c,h.codes q hq _ _ _⟩
 have ek:=Ja4 p.eqs;unfold Xs;exact(((((Jq8 dF p.ins 0 Ua).app (Jro dF (J0 p.eqs) 0 Ua)).app (Jrd dF hq (J1 p).1)).app (Jrf dF (J0 p.eqs) 0 (fun q hd=>hq q (Z4 hd).1) Ua)).app (Jrj dF _ _ (by rw [List.length_drop];omega))).app (Jri dF p.outs 0 Ua)
theorem Jy1 {e:Ex} (h:e.OK):I32 (Jai e):=by
 unfold Jai
 split
 ·exact Jvc _
 ·cases e;simp only [Ex.OK] at h;exact h.2.1
theorem Jt7 {p:Pr} (aw:Q4 p):∀x∈(Jq p).map (·.first),I32 x:=by
 intro x hx;obtain⟨c,hc,rfl⟩:=List.mem_map.1 hx;unfold Jq at hc
 rcases List.mem_append.1 hc with hc|hc
 ·obtain⟨q,hq,rfl⟩:=List.mem_map.1 hc;exact Jy1 (aw.eqs q (Z4 hq).1).2.2.1
 ·unfold K3 at hc;obtain⟨d,_,rfl⟩:=List.mem_map.1 hc;show I32 0;unfold I32;omega
end Go.Proofs.YtknfcamdfdfoeaaGreatDoor
