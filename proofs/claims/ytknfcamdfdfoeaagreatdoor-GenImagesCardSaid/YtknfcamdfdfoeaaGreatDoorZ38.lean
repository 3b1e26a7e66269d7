/- Lemmas. -/
import Derived.Test.YtknfcamdfdfoeaaGreatDoorMac
import Derived.Test.YtknfcamdfdfoeaaGreatDoorZ30
import Derived.Test.YtknfcamdfdfoeaaGreatDoorZ33
import Derived.Deep.RegionLaw
import Derived.BigRegion
import Derived.Test.YtknfcamdfdfoeaaGreatDoorZ12
import Derived.Test.YtknfcamdfdfoeaaGreatDoorZ08
import Derived.Test.YtknfcamdfdfoeaaGreatDoorZ21
import Derived.Test.YtknfcamdfdfoeaaGreatDoorZ09
import Derived.Test.YtknfcamdfdfoeaaGreatDoorZ02
import Derived.Test.YtknfcamdfdfoeaaGreatDoorZ34
import Derived.Test.YtknfcamdfdfoeaaGreatDoorZ15
set_option linter.unusedVariables false
set_option linter.unusedSimpArgs false
set_option maxRecDepth 100000
set_option maxHeartbeats 64000000
namespace Go.Proofs.YtknfcamdfdfoeaaGreatDoor
open Go.RowKit Go.Sort
theorem Kcr (m:Im) (a:ImA) (w:World):Calls Tryz.prog 102 #[imV m a] w fun r w'=>r = .returned (frV m.moves)/\Below w.heap.size w w':=by
 unfold imV frV Im.moves;dsimp only
 go_enter Tryz.func102,Tryz.ntmps102
 go_wp2_with fail
 refine Nv (v:= .agg #[.int .i64 0,.int .i64 m.eld,.int .i64 m.fr.n,.int .i64 0,.int .i64 0]) (by simp [results,Tryz.results102,go_sem, *]) rfl ⟨rfl,?_⟩;exact Km
theorem Kb9 (l:List Int) (A:Option Addr) (cap d n:Nat) (w:World) (hb:Qc w (byU l) l.length A cap) (hl:l.length<=100000) (hd:1<=d) (hd8:d<=7) (hn:n<256 ^ d) :
  Calls Tryz.prog 103 #[.slice A l.length cap,.int .i64 d,.int .i64 n] w fun r w'=>(∃v,r = .returned v/\w'.ownsRow w.heap.size 5 1 v (l ++ leB d n).length (byU (l ++ leB d n)))/\Below w.heap.size w w':=by
 have iF:=Kaz l A cap d n w hb hl hd Ua hn;have hn64:n<18446744073709551616:=Nr hn (Nat.le_trans (Nat.pow_le_pow_right Ua hd8) Ux)
 have ky:IntKind.u64.wrap (n:Int)=(n:Int):=by
  exact Uc8
 generalize l ++ leB d n=l2 at *;unfold Y8 at iF;clear hb hn hn64
 go_enter Tryz.func103,Tryz.ntmps103
 go_wp2_with (go_at_call 125;refine iF.mono ?_;rintro r w2 ⟨⟨v,rfl,ae⟩,aq⟩)
 go_ret;exact⟨⟨v,rfl,ae⟩,aq⟩
theorem Kc1 (l x:List Int) (A:Option Addr) (cap:Nat) (A2:Option Addr) (cap2:Nat) (w:World) (hb:Qc w (byU l) l.length A cap) (hx:Qc w (byU x) x.length A2 cap2) (hl:l.length<=100000) (hn:x.length<=65535) :
  Calls Tryz.prog 106 #[.slice A l.length cap,.slice A2 x.length cap2] w fun r w'=>(∃v,r = .returned v/\w'.ownsRow w.heap.size 5 1 v (l ++ Jcs x).length (byU (l ++ Jcs x)))/\Below w.heap.size w w':=by
 have iF:=Kb7 l x A cap A2 cap2 w hb hx hl hn;generalize l ++ Jcs x=l2 at *;unfold Y8 at iF;clear hb hx hn
 go_enter Tryz.func106,Tryz.ntmps106
 go_wp2_with (go_at_call 127;refine iF.mono ?_;rintro r w2 ⟨⟨v,rfl,ae⟩,aq⟩)
 go_ret;exact⟨⟨v,rfl,ae⟩,aq⟩
theorem Kbd {c:List (Int×Int)} {f:Fr} {fuel:Int} (h:Jcj c f fuel=0):(Yi c f).2.1=0/\(Yi c f).1.2=fuel:=by
 unfold Jcj at h
 by_cases h1:(Yi c f).2.1=0/\(Yi c f).1.2≠fuel
 ·rw [if_pos h1] at h;exact absurd h Ux
 ·rw [if_neg h1] at h;refine⟨h,?_⟩
  by_cases h2:(Yi c f).1.2=fuel
  ·exact h2
  ·exact absurd ⟨h,h2⟩ h1
theorem Kcj {m:Im} (h:m.wrong=0):(m.ver≠0/\m.fro<m.ver/\0<=m.eld/\m.eld<=16)/\(m.fr.o=m.fr.n/\(m.first.length:Int)=m.fr.n)/\(m.fro=0->m.eld=0/\m.move.length=0)/\Jcj m.step m.fr m.sf=0/\Jcj m.move m.moves m.mf=0:=by
 unfold Im.wrong at h
 by_cases c1:m.ver=0\/m.ver<=m.fro\/m.eld<0\/16<m.eld
 ·rw [if_pos c1] at h;exact absurd h Ux
 rw [if_neg c1] at h
 by_cases c2:m.fr.o≠m.fr.n\/(m.first.length:Int)≠m.fr.n
 ·rw [if_pos c2] at h;exact absurd h Ux
 rw [if_neg c2] at h
 by_cases c3:m.fro=0/\(0<m.eld\/0<m.move.length)
 ·rw [if_pos c3] at h;exact absurd h Ux
 rw [if_neg c3] at h
 by_cases c4:Jcj m.step m.fr m.sf≠0
 ·rw [if_pos c4] at h;exact absurd h c4
 rw [if_neg c4] at h;exact⟨Ua,Ua,fun h0=>Ua,by simpa using c4,h⟩
def imC (m:Im) (a:ImA):List Value:=[.int .u32 m.ver,.int .u32 m.fro,.int .i64 m.eld,.int .i64 m.fr.s,.int .i64 m.fr.o,.int .i64 m.fr.n,.int .i64 m.fr.i,.int .i64 m.fr.u,.slice a.A1 m.first.length a.c1,.slice a.A2 m.step.length a.c2,.slice a.A3 m.move.length a.c3,.int .i64 m.sf,.int .i64 m.mf]
def ImB (W:World) (g:Nat) (l:List Value):Prop:=∀(o:Nat) (u:Value),l[o]?=some u->W.cell? ⟨g,o,none⟩=some u
theorem ImB.later {W W':World} {g:Nat} {l:List Value} (h:ImB W g l) (hb:Below W.heap.size W W'):ImB W' g l:=fun o u ho=>Ja hb (h o u ho)
theorem ImB.new (W:World) (l:List Value) (t:TypeId):ImB (W.alloc (.cells l.toArray t)) W.heap.size l:=fun o u ho=>(Kw W l.toArray t o).trans (by simpa using ho)
theorem Kbr (m:Im) (a:ImA) (w:World) (hm:Jd5 w m a) (aw:Jsj m) (h:m.wrong=0) :
  Calls Tryz.prog 69 #[imV m a] w fun r w'=>r = .returned (.int .i64 0)/\Below w.heap.size w w':=by
 obtain⟨⟨h1,h2,h3,h4⟩,⟨h5,h6⟩,h7,h8,h9⟩:=Kcj h;obtain⟨b1,b2⟩:=Kbd h8;obtain⟨b3,b4⟩:=Kbd h9;have hj1:=fun W (hb:Below w.heap.size w W)=>Ka0 m.step a.A2 a.c2 m.fr W (hm.step.later hb) aw.step b1;have hj2:=fun W (hb:Below w.heap.size w W)=>Ka0 m.move a.A3 a.c3 m.moves W (hm.move.later hb) aw.move b3;have hmv:=fun W=>Kcr m a W;rw [b2] at hj1;rw [b4] at hj2;have ak:=hm.first.1;have kE:=hm.move.1;have t1:(m.ver == 0)=false:=Lw;have t2:decide (m.ver<=m.fro)=false:=Uj;have t3:decide (m.eld<0)=false:=Uj;have t4:decide (16<m.eld)=false:=Uj;have t5:(m.fr.o != m.fr.n)=false:=by simpa using h5
 have t6:((m.first.length:Int) != m.fr.n)=false:=by simpa using h6
 have t7:((m.fro == 0)=false/\True/\True)\/((m.fro == 0)=true/\(m.eld != 0)=false/\((m.move.length:Int) != 0)=false):=by
  by_cases h0:m.fro=0
  ·obtain⟨e1,e2⟩:=h7 h0;exact .inr ⟨Mr,by simpa using e1,by simp [e2]⟩
  ·exact .inl ⟨Mr,trivial,trivial⟩
 obtain⟨A1,c1,A2,c2,A3,c3⟩:=a;unfold imV at *;unfold frV at hj1 hj2 hmv;dsimp only at *;generalize (Yi m.step m.fr).1.1=e1 at *;generalize (Yi m.move m.moves).1.1=e2 at *;generalize m.moves=mv at *;have HJ1:=Nf hj1;have HJ2:=Nf hj2;have HMV:=Nf hmv;clear hm aw h h1 h2 h3 h4 h5 h6 h7 h8 h9 b1 b2 b3 b4 hj1 hj2 hmv
 rcases t7 with ⟨t7,t8,t9⟩|⟨t7,t8,t9⟩
 all_goals
  go_enter Tryz.func69,Tryz.ntmps69
  go_upto_region 1 with fail
  refine Jo fun W0 ag=>?_;have HB0:Hid (ImB W0 w.heap.size (imC m ⟨A1,c1,A2,c2,A3,c3⟩)):=by rw [ag];exact Nf (ImB.new _ _ _)
  have aC:=Nd w W0 Uo;have x0:=HB0.out 0 _ rfl;have x1:=HB0.out 1 _ rfl;have x2:=HB0.out 2 _ rfl;have x3:=HB0.out 3 _ rfl;have x4:=HB0.out 4 _ rfl;have x5:=HB0.out 5 _ rfl;have x6:=HB0.out 6 _ rfl;have x7:=HB0.out 7 _ rfl;have x8:=HB0.out 8 _ rfl;have x9:=HB0.out 9 _ rfl;have x10:=HB0.out 10 _ rfl;clear ag
  go_upto_region 12 with (go_at_call 38;go_loud (refine(HJ1.out _ aC).mono ?_;rintro r w1 ⟨rfl,ac⟩;have HB1:=Nf (HB0.out.later (Jd ac (Jc (Nt) (.cells #[.int .i64 e1,.int .i64 m.sf] 101))));have x11:=HB1.out 11 _ rfl))
  refine Jo fun W2 gi=>?_;have HB2:Hid (ImB W2 w.heap.size (imC m ⟨A1,c1,A2,c2,A3,c3⟩)):=by rw [gi];exact HB1
  have aq:=Nd w W2 (by rw [gi];exact Jc (Jd aC ac) _)
  have r0:=Na W2 w1.heap.size 0 e1 (by rw [gi];go_simp)
  have r1:=Na W2 w1.heap.size 1 m.sf (by rw [gi];go_simp)
  have f0:=Nc W2 w1.heap.size 0 (by rw [gi];go_simp)
  have f1:=Nc W2 w1.heap.size 1 (by rw [gi];go_simp)
  have af:w.heap.size<w1.heap.size:=Nr (Nu (HB0.out 0 _ rfl)) ac.size;clear gi HB1 x0 x1 x2 x3 x4 x5 x6 x7 x8 x9 x10 x11 HB0;have y0:=HB2.out 0 _ rfl;have y1:=HB2.out 1 _ rfl;have y2:=HB2.out 2 _ rfl;have y3:=HB2.out 3 _ rfl;have y4:=HB2.out 4 _ rfl;have y5:=HB2.out 5 _ rfl;have y6:=HB2.out 6 _ rfl;have y7:=HB2.out 7 _ rfl;have y8:=HB2.out 8 _ rfl;have y9:=HB2.out 9 _ rfl;have y10:=HB2.out 10 _ rfl;have y11:=HB2.out 11 _ rfl;have y12:=HB2.out 12 _ rfl;have xE:=Nu y0;have rq:=Nu r0
  go_region_law (go_simp;go_wp2_with (first
   | (go_at_call 38;go_loud (refine(HJ2.out _ Jb).mono ?_;rintro r w4 ⟨rfl,ei⟩;have hbg:=Jd (Jd (Jd aq (Jh (Nt))) aM) ei;have y12b:=Ja ei y12a;have r0b:=Ja ei r0a;have r1b:=Ja ei r1a;have f0b:=(Jf ei _ 0 (Nu r0a)).trans f0a;have f1b:=(Jf ei _ 1 (Nu r1a)).trans f1a))
   | (go_at_call 102;go_loud (refine(HMV.out _).mono ?_;rintro r w3 ⟨rfl,aM⟩;have y10a:=Ja aM y10;have y12a:=Ja aM y12;have r0a:=Ja aM r0;have r1a:=Ja aM r1;have f0a:=(Jf aM _ 0 rq).trans f0;have f1a:=(Jf aM _ 1 rq).trans f1))))
  all_goals
   go_wp2_with fail
   go_ret;exact⟨rfl,by repeat (first|(with_reducible exact hbg)|refine Below.setCell ?_ (show w.heap.size<=w1.heap.size by omega) _|refine Jh ?_)⟩
section
variable {P:Program} {w:World}
theorem Jwv (base:Nat) (t ty e:TypeId) (z:Value) (size bytes:Nat) (ht:P.underlying t=some (.slice e)) (hi:(P.info? e).map (fun i=>(i.zero,i.size,i.bytes))=some (some z,size,bytes))
  (gH:z.cells.size=size) (cE:0<size) (v:Value) (n:Nat) (xs:List Value) (ae:w.ownsRow base e size v n xs) (A:Option Addr) (m c:Nat) (news:List Value)
  (hc:X6 w A m size news) (h1:∀u∈news,u.oneCell'=true) (hn:n+m<=100000000) (hb:bytes<=1000) (aK:base<=w.heap.size) :
  ∃v' w',(Builtin.append_ #[t,t] ty #[v,.slice A m c]).run P w = .ok v' w'/\w'.ownsRow base e size v' (n+m) (xs ++ news)/\w.grownBy w' v.ownBlock/\
   (v'.ownBlock=v.ownBlock\/∀k,v'.ownBlock=some k->w.heap.size<=k):=by
 obtain⟨hl,ah⟩:=hc
 rcases Nat.eq_zero_or_pos m with rfl|hm
 ·have:news = []:=List.eq_nil_of_length_eq_zero (by simpa using hl);subst this
  cases A with
  | none=>
   obtain⟨i,kF,_,_,_⟩:=info_parts hi;exact⟨v,w,Jju base t ty e i size ht kF v n xs ae c,by simpa using ae,⟨rfl,rfl,rfl,Ns _,fun _ _ _=>rfl⟩,.inl rfl⟩
  | some ad=>exact Jkl base t ty e z size bytes ht hi gH cE v n xs ae ad 0 c [] hl (fun j u hj=>by simp at hj) h1 hn hb aK
 ·obtain⟨b,off,rfl,hj⟩:=ah hm;refine Jkl base t ty e z size bytes ht hi gH cE v n xs ae _ m c news hl (fun j u hu=>?_) h1 hn hb aK;have cQ:(⟨b,off,none⟩:Addr).add j=⟨b,off+j,none⟩:=Lq;rw [cQ];exact hj j u hu
theorem Jez {o:Oper} {a:Act} {K:Act->World->Prop} {Q:Exit->Act->World->Prop} (s x:Operand) (t:TypeId)
  (ho:o.op = .call {callee:= .builtin .append,args:=#[s,x],argTypes:=#[t,t]})
  (base:Nat) (e:TypeId) (z:Value) (size bytes:Nat) (ht:P.underlying t=some (.slice e)) (hi:(P.info? e).map (fun i=>(i.zero,i.size,i.bytes))=some (some z,size,bytes))
  (gH:z.cells.size=size) (cE:0<size) (v:Value) (n:Nat) (xs:List Value) (A:Option Addr) (m c:Nat) (news:List Value) (hs:a.eval s=v) (ae:w.ownsRow base e size v n xs)
  (hx:a.eval x = .slice A m c) (hc:X6 w A m size news) (h1:∀u∈news,u.oneCell'=true) (hn:n+m<=100000000) (hb:bytes<=1000) (aK:base<=w.heap.size)
  (h:∀v' w',w'.ownsRow base e size v' (n+m) (xs ++ news)->w.grownBy w' v.ownBlock->(v'.ownBlock=v.ownBlock\/∀k,v'.ownBlock=some k->w.heap.size<=k)->K (a.put o.dst v') w'):o.wp P a w K Q:=by
 obtain⟨v',w',hr,h2,h3,h4⟩:=Jwv (P:=P) base t o.type e z size bytes ht hi gH cE v n xs ae A m c news hc h1 hn hb aK;unfold Oper.wp execOp;simp only [ho,resolve,invoke,builtin,Sem.run_bind,Sem.run_pure,Result.andThen_ok,List.map_toArray,List.map_cons,List.map_nil,hs,hx,hr];exact h v' w' h2 h3 h4
theorem Qv {ops:Array Oper} {rest:List Oper} {o:Oper} {a:Act} {Q:Exit->Act->World->Prop} (oL:o.guard=none) (s x:Operand) (t:TypeId)
  (ho:o.op = .call {callee:= .builtin .append,args:=#[s,x],argTypes:=#[t,t]})
  (base:Nat) (e:TypeId) (z:Value) (size bytes:Nat) (ht:P.underlying t=some (.slice e)) (hi:(P.info? e).map (fun i=>(i.zero,i.size,i.bytes))=some (some z,size,bytes))
  (gH:z.cells.size=size) (cE:0<size) (v:Value) (n:Nat) (xs:List Value) (A:Option Addr) (m c:Nat) (news:List Value) (hs:a.eval s=v) (ae:w.ownsRow base e size v n xs)
  (hx:a.eval x = .slice A m c) (hc:X6 w A m size news) (h1:∀u∈news,u.oneCell'=true) (hn:n+m<=100000000) (hb:bytes<=1000) (aK:base<=w.heap.size)
  (h:∀v' w',w'.ownsRow base e size v' (n+m) (xs ++ news)->w.grownBy w' v.ownBlock->(v'.ownBlock=v.ownBlock\/∀k,v'.ownBlock=some k->w.heap.size<=k)->wpList P ops Q rest (a.put o.dst v') w'):wpList P ops Q (o :: rest) a w:=
 wpList_plain oL fun _ hK=>Jez s x t ho base e z size bytes ht hi gH cE v n xs A m c news hs ae hx hc h1 hn hb aK fun v' w' h2 h3 h4=>hK _ _ (h v' w' h2 h3 h4)
end
theorem Jib {a b c:World} {r0 r1:Option Nat} (h1:a.grownBy b r0) (h2:b.grownBy c r1) (hr:r1=r0\/∀k,r1=some k->a.heap.size<=k):a.grownBy c r0:=
 ⟨h2.os.trans h1.os,h2.tape.trans h1.tape,h2.output.trans h1.output,Nat.le_trans h1.size h2.size,fun k hk aS=>(h2.block k (Nr hk h1.size) (by
  rcases hr with rfl|hr
  ·exact aS
  ·intro he;have:=hr k he.symm;omega)).trans (h1.block k hk aS)⟩
theorem Zj (w:World) (r:Option Nat):w.grownBy w r:=⟨rfl,rfl,rfl,Ns _,fun _ _ _=>rfl⟩
theorem X5 {B n size:Nat} {t:TypeId} {w W:World} {v u:Value} {xs:List Value} (h:w.ownsRow B t size v n xs) (hg:w.grownBy W u.ownBlock) (aS:∀b,u.ownBlock=some b->v.ownBlock≠some b):W.ownsRow B t size v n xs:=by
 refine h.kept hg ?_
 cases hb:u.ownBlock with
 | none=>cases hv:v.ownBlock with
  | none=>exact .inl rfl
  | some k=>exact .inr Ul
 | some b=>exact .inr (aS b hb)
theorem Jmf {u v v2:Value} {S:Nat} (h:∀b,u.ownBlock=some b->v.ownBlock≠some b) (hu:∀b,u.ownBlock=some b->b<S) (h2:v2.ownBlock=v.ownBlock\/∀b,v2.ownBlock=some b->S<=b):∀b,u.ownBlock=some b->v2.ownBlock≠some b:=fun b hb he=>by
 rcases h2 with h2|h2
 ·exact h b hb (h2 ▸ he)
 ·have:=h2 b he;have:=hu b hb;omega
theorem Jcu {u v:Value} (h:∀b,u.ownBlock=some b->v.ownBlock≠some b):∀b,v.ownBlock=some b->u.ownBlock≠some b:=fun b hb he=>h b he hb
theorem Qr {w:World} {c:Array Value} {t:TypeId} {m size:Nat} {news:List Value} (hc:c=news.toArray) (hl:news.length=m * size):X6 (w.alloc (.cells c t)) (some ⟨w.heap.size,0,none⟩) m size news:=
 ⟨hl,fun _=>⟨w.heap.size,0,rfl,fun j u hj=>by rw [Nat.zero_add,Kw,hc];simpa using hj⟩⟩
structure Zo (B:Nat) (w0:World) (g:Option Nat) (W:World) (v:Value) (l:List (Int×Int)):Prop where
 own:W.ownsRow B 59 2 v l.length (cdC l)
 blk:v.ownBlock=g\/∀k,v.ownBlock=some k->w0.heap.size<=k
 grow:w0.grownBy W g
theorem Zo.start {B:Nat} {w:World} {v:Value} {l:List (Int×Int)} (h:w.ownsRow B 59 2 v l.length (cdC l)):Zo B w v.ownBlock w v l:=⟨h,.inl rfl,Zj _ _⟩
theorem Zo.bel {B:Nat} {w0 W W':World} {g:Option Nat} {v:Value} {l:List (Int×Int)} (h:Zo B w0 g W v l) (hb:Below W.heap.size W W'):Zo B w0 g W' v l:=⟨Jy h.own hb,h.blk,Kv h.grow (K0 hb)⟩
theorem Zo.app {B:Nat} {w0 W W2:World} {g:Option Nat} {v v2:Value} {l a:List (Int×Int)} (h:Zo B w0 g W v l) (ae:W2.ownsRow B 59 2 v2 (l.length+a.length) (cdC l ++ cdC a)) (hg:W.grownBy W2 v.ownBlock)
  (hv:v2.ownBlock=v.ownBlock\/∀k,v2.ownBlock=some k->W.heap.size<=k):Zo B w0 g W2 v2 (l ++ a):=by
 refine⟨by rw [Nk,Jbr];exact ae,?_,Jib h.grow hg h.blk⟩
 rcases hv with hv|hv
 ·rw [hv];exact h.blk
 ·exact .inr fun k hk=>Nat.le_trans h.grow.size (hv k hk)
theorem Zo.next {B:Nat} {w0 W W2:World} {g:Option Nat} {v v2:Value} {l l2:List (Int×Int)} (h:Zo B w0 g W v l) (h2:Zo B W v.ownBlock W2 v2 l2):Zo B w0 g W2 v2 l2:=by
 refine⟨h2.own,?_,Jib h.grow h2.grow h.blk⟩
 rcases h2.blk with hv|hv
 ·rw [hv];exact h.blk
 ·exact .inr fun k hk=>Nat.le_trans h.grow.size (hv k hk)
theorem Zo.base {B:Nat} {w0 W:World} {g:Option Nat} {v:Value} {l:List (Int×Int)} (h:Zo B w0 g W v l) (hB:B<=w0.heap.size):B<=W.heap.size:=Nat.le_trans hB h.grow.size
theorem Zo.below {B:Nat} {w0 W:World} {g:Option Nat} {v:Value} {l:List (Int×Int)} (h:Zo B w0 g W v l) (hg:∀b,g=some b->B<=b) (hB:B<=w0.heap.size) {w:World} (hw:Below B w w0):Below B w W:=J2 hw h.grow hg hB
def Jcc (B:Nat) (w:World) (v:Value) (l:List (Int×Int)) (r:Ending) (w':World):Prop:=∃v',r = .returned v'/\Zo B w v.ownBlock w' v' l
theorem Xo (op n:Int) (hn:I32 n) (w:World):Calls Tryz.prog 27 #[.int .i64 op,.int .i64 n] w fun r w'=>r = .returned (.agg #[.int .i64 op,.int .i32 n])/\Below w.heap.size w w':=by
 have hwr:IntKind.i32.wrap n=n:=Jbn hn;clear hn
 go_enter Tryz.func27,Tryz.ntmps27
 go_wp2_with fail
 refine Nv (v:= .agg #[.int .i64 op,.int .i32 n]) (by simp [results,Tryz.results27,go_sem, *]) rfl ⟨rfl,?_⟩;exact Km
theorem Jd3 {L:List Va} (h:L.length<=1000000) (s:ByteArray):I32 (Jp L s):=by
 unfold I32
 rcases Y5 L s with ⟨h1,_⟩|⟨k,v,h1,h2,_⟩
 ·exact Ua
 ·have:=(Nh h2).1;exact Ua
theorem Jdt (L:List Va) (Av:Option Addr) (cv:Nat) (C:Value) (s:ByteArray) (w:World) (hl:Ju w L Av cv) :
  Calls Tryz.prog 28 #[.agg #[.slice Av L.length cv,C],.string s] w fun r w'=>r = .returned (.int .i64 (Jp L s))/\Below w.heap.size w w':=by
 have ap:=fun W h=>Xa L Av cv s W (hl.later h)
 go_enter Tryz.func28,Tryz.ntmps28
 go_wp2_with (first|(go_at_call 49;go_loud (refine(ap _ Jb).mono ?_;rintro r w1 ⟨rfl,ac⟩)))
 go_ret;exact⟨rfl,Jb⟩
theorem Jtu (V:Value) (l:List Ce) (A:Option Addr) (cap:Nat) (ck:Int) (cs:ByteArray) (w:World) (hl:Jbh w l A cap) (hn:l.length<=1000000) :
  Calls Tryz.prog 58 #[.agg #[V,.slice A l.length cap],.agg #[.int .i64 ck,.string cs]] w fun r w'=>r = .returned (.int .i64 (Kg l (ck,cs)))/\Below w.heap.size w w':=by
 have bI:=hl.1;have aD:=hl.2.1;unfold maxLen at aD;have fM:=Jbt
 go_enter Tryz.func58,Tryz.ntmps58
 go_wp2_with fail
 refine Jo fun W0 ag=>?_;have ax:=Nd w W0 Uo;have bD:w.heap.size+1<W0.heap.size:=La;have rx:=lt0 w W0;have m1:=Nb W0 w.heap.size 1 (.slice A l.length cap) Uc;have p0:=Na W0 (w.heap.size+1) 0 ck Uc;have p1:=Nb W0 (w.heap.size+1) 1 (.string cs) Uc;clear ag
 go_loopw [5] (fun i wr=>∃(k:Nat),k<=l.length/\i = .int .i64 k/\Hid (Jav k (l.drop k) (ck,cs)=Kg l (ck,cs))/\Below W0.heap.size W0 wr) (fun i _=>l.length-(intOf i).toNat)
 case atStart=>exact⟨0,Np,rfl,Nf (by rw [List.drop_zero];rfl),Nt⟩
 case round=>
  obtain⟨k,hk,rfl,aa,ab⟩:=hrel;have hc:=Jg ab;have bu:=ab.size;have lu:=lt0 w wr;have ud:=ltA w 1 wr
  by_cases am:k<l.length
  ·have hx:l[k]?=some l[k]:=Ng am;have hd:l.drop k=l[k] :: l.drop (k+1):=No am;generalize l[k]=x at hx hd;obtain⟨b,off,rfl,cB⟩:=((hl.later ax).later ab).2.2.2 Ua;have aY:=Jdh l k x hx;have d0:=Nb wr b (off+k * 4) (.string x.name) (cB _ _ aY.1);have d1:=Na wr b (off+k * 4+1) x.ck (cB _ _ aY.2.1);have d2:=Nb wr b (off+k * 4+2) (.string x.cn) (cB _ _ aY.2.2.1);have hr:=aa.out;rw [hd,Jav] at hr;dsimp only at hr;have dp:=fun w=>Zt x.ck x.cn ck cs w;have aH:b<wr.heap.size:=Nu d0;clear cB aY hx hd aa
   cases aS:x.name.toList.isEmpty
   ·rw [aS,if_neg Ul] at hr;have HR:=Nf hr;clear hr
    go_wp2_with fail
    go_quiet (fail)
    go_wp2_with fail
    exact Uee
   ·cases et:K9 x.ck x.cn ck cs
    ·rw [et] at dp;rw [et,if_neg Ul] at hr;exact Ubq
    ·rw [et] at dp;rw [aS,et,if_pos ⟨rfl,rfl⟩] at hr;have HR:=Nf hr;clear hr et
     go_wp2_with fail
     go_quiet (fail)
     go_wp2_with fail
     go_ret;exact⟨Jm HR.out,Jb⟩
  ·obtain rfl:k=l.length:=Ua;have hr:=aa.out;rw [Nn,Jav] at hr;have HR:=Nf hr;clear hr aa;exact Uda
def Jf1 (w:World) (g:Option Nat) (P:World->Prop):Prop:=∀W,w.grownBy W g->P W
theorem Jf4 (B:Nat) (v:Value) (l a b:List (Int×Int)) (A2:Option Addr) (c2:Nat) (A3:Option Addr) (c3:Nat) (w:World) (hB:B<=w.heap.size) (h1:w.ownsRow B 59 2 v l.length (cdC l)) (h2:Jf1 w v.ownBlock fun W=>J3 W a A2 c2) (h3:Jf1 w v.ownBlock fun W=>J3 W b A3 c3) (hl:l.length+a.length+b.length<=900000) :
  Calls Tryz.prog 57 #[v,.slice A2 a.length c2,.slice A3 b.length c3] w (Jcc B w v (Yv l a b)):=by
 have n1:I32 ((a.length:Int)+1):=Vh;have n2:I32 (b.length:Int):=Vh;have l2:=(h2 w (Zj _ _)).1;have l3:=(h3 w (Zj _ _)).1;have m2:=(h2 w (Zj _ _)).2.1;have m3:=(h3 w (Zj _ _)).2.1;unfold maxLen at m2 m3;have S0:=Nf (Zo.start h1);have H2:=Nf h2;have H3:=Nf h3;clear h1 h2 h3;unfold Jcc
 go_enter Tryz.func57,Tryz.ntmps57
 go_wp2_with (first
  | (go_at_call_of 27 (Value.int IntKind.i64 11);go_loud (refine(Xo _ _ n1 _).mono ?_;rintro r w1 ⟨rfl,ac⟩;have S1:=Nf (S0.out.bel ac)))
  | (go_at_call_of 27 (Value.int IntKind.i64 10);go_loud (refine(Xo _ _ n2 _).mono ?_;rintro r w4 ⟨rfl,ei⟩;have S4:=Nf (S3.out.bel ei)))
  | (at_builtin;refine Qv rfl (.tmp 7) (.tmp 12) 29 rfl B 59 _ 2 16 Tryz.underlying29 Qz rfl Ua v l.length (cdC l) _ 1 1 (cdC [(11,(a.length:Int)+1)]) rfl (Js S1.out.own) rfl (Qr rfl rfl) (Q2 _) Ua Ua Dy ?_;intro v2 w2 ao aG aI;have S2:=Nf ((S1.out.bel (Jc (Nt) _)).app ao aG aI))
  | (at_builtin;refine Qv rfl (.tmp 14) (.tmp 15) 29 rfl B 59 _ 2 16 Tryz.underlying29 Qz rfl Ua v2 _ _ A2 a.length c2 (cdC a) rfl S2.out.own rfl (H2.out _ S2.out.grow).2.2 (Q2 _) Uj Ua (S2.out.base hB) ?_;intro v3 w3 aE bJ iM;have S3:=Nf (S2.out.app aE bJ iM))
  | (at_builtin;refine Qv rfl (.tmp 17) (.tmp 21) 29 rfl B 59 _ 2 16 Tryz.underlying29 Qz rfl Ua v3 _ _ _ 1 1 (cdC [(10,(b.length:Int))]) rfl (Js S4.out.own) rfl (Qr rfl rfl) (Q2 _) Uj Ua Fx ?_;intro v5 w5 bX eT jr;have S5:=Nf ((S4.out.bel (Jc (Nt) _)).app bX eT jr))
  | (at_builtin;refine Qv rfl (.tmp 23) (.tmp 24) 29 rfl B 59 _ 2 16 Tryz.underlying29 Qz rfl Ua v5 _ _ A3 b.length c3 (cdC b) rfl S5.out.own rfl (H3.out _ S5.out.grow).2.2 (Q2 _) Uj Ua (S5.out.base hB) ?_;intro v6 w6 fi ue yt;have S6:=Nf (S5.out.app fi ue yt)))
 go_ret;exact⟨_,rfl,S6.out⟩
theorem Jlp (B:Nat) (v:Value) (L:List Va) (C:Value) (Av:Option Addr) (cv:Nat) (l x:List (Int×Int)) (A2:Option Addr) (c2:Nat) (ck:Int) (cs:ByteArray) (w:World) (hB:B<=w.heap.size) (h1:w.ownsRow B 59 2 v l.length (cdC l)) (h2:Jf1 w v.ownBlock fun W=>J3 W x A2 c2) (h3:Jf1 w v.ownBlock fun W=>Ju W L Av cv) (hL:L.length<=1000000) (hk:ck=0\/ck=1\/ck=2) (hl:l.length+x.length<=900000) :
  Calls Tryz.prog 31 #[.agg #[.slice Av L.length cv,C],v,.agg #[.int .i64 ck,.string cs],.slice A2 x.length c2] w (Jcc B w v (l ++ Qk (Jp L) (ck,cs) x)):=by
 have n1:I32 (x.length:Int):=Vh;have n2:=Jd3 hL cs;have n3:I32 2:=Vh;have l2:=(h2 w (Zj _ _)).1;have m2:=(h2 w (Zj _ _)).2.1;unfold maxLen at m2;have ea:=fun W h=>Jdt L Av cv C cs W (h3 W h);have S0:=Nf (Zo.start h1);have H2:=Nf h2;have ru:Qk (Jp L) (0,cs) x=x:=by simp [Qk]
 have hu1:Qk (Jp L) (1,cs) x = [(2,Jp L cs)] ++ [(11,(x.length:Int))] ++ x:=by simp [Qk]
 have hu2:Qk (Jp L) (2,cs) x = [(2,Jp L cs)] ++ [(8,2)] ++ [(11,(x.length:Int))] ++ x:=by simp [Qk]
 have HU0:=Nf ru;have HU1:=Nf hu1;have HU2:=Nf hu2;clear h1 h2 h3 ru hu1 hu2;unfold Jcc
 rcases hk with rfl|rfl|rfl
 ·go_enter Tryz.func31,Tryz.ntmps31
  go_wp2_with (first
   | (at_builtin;refine Qv rfl (.tmp 33) (.tmp 34) 29 rfl B 59 _ 2 16 Tryz.underlying29 Qz rfl Ua v l.length (cdC l) A2 x.length c2 (cdC x) rfl (Js (Js S0.out.own)) rfl (H2.out _ (K0 (Jc (Jc (Nt) _) _))).2.2 (Q2 _) Ua Ua Uj ?_;intro v2 w2 ao aG aI;have S2:=Nf ((S0.out.bel (Jc (Jc (Nt) _) _)).app ao aG aI)))
  go_ret;exact⟨_,rfl,by rw [HU0.out];exact S2.out⟩
 ·generalize Jp L cs=f at *
  go_enter Tryz.func31,Tryz.ntmps31
  go_wp2_with (first
    | (at_builtin;refine Qv rfl (.tmp 33) (.tmp 34) 29 rfl B 59 _ 2 16 Tryz.underlying29 Qz rfl Ua v5 _ _ A2 x.length c2 (cdC x) rfl S5.out.own rfl (H2.out _ S5.out.grow).2.2 (Q2 _) Uj Ua (S5.out.base hB) ?_;intro v6 w6 fi ue yt;have S6:=Nf (S5.out.app fi ue yt))
    | (at_builtin;(first|refine Qv rfl (.tmp 27) (.tmp 31) 29 rfl B 59 _ 2 16 Tryz.underlying29 Qz rfl Ua v8 _ _ _ 1 1 (cdC [(11,(x.length:Int))]) rfl (Js S4.out.own) rfl (Qr rfl rfl) (Q2 _) Uj Ua Fx ?_|refine Qv rfl (.tmp 27) (.tmp 31) 29 rfl B 59 _ 2 16 Tryz.underlying29 Qz rfl Ua v2 _ _ _ 1 1 (cdC [(11,(x.length:Int))]) rfl (Js S4.out.own) rfl (Qr rfl rfl) (Q2 _) Uj Ua Fx ?_);intro v5 w5 bX eT jr;have S5:=Nf ((S4.out.bel (Jc (Nt) _)).app bX eT jr))
    | (go_at_call_of 27 (Value.int IntKind.i64 11);go_loud (refine(Xo _ _ n1 _).mono ?_;rintro r w4 ⟨rfl,ei⟩;first|have S4:=Nf (S8.out.bel ei)|have S4:=Nf (S2.out.bel ei)))
    | (at_builtin;refine Qv rfl (.tmp 23) (.tmp 25) 29 rfl B 59 _ 2 16 Tryz.underlying29 Qz rfl Ua v2 _ _ _ 1 1 (cdC [(8,2)]) rfl (Js S7.out.own) rfl (Qr rfl rfl) (Q2 _) Uj Ua (by have:=S7.out.base hB;simp;omega) ?_;intro v8 w8 pq hg8 hv8;have S8:=Nf ((S7.out.bel (Jc (Nt) _)).app pq hg8 hv8))
    | (go_at_call_of 27 (Value.int IntKind.i64 8);go_loud (refine(Xo _ _ n3 _).mono ?_;rintro r w7 ⟨rfl,hb7⟩;have S7:=Nf (S2.out.bel hb7)))
    | (at_builtin;go_loud (refine Qv rfl (.tmp 12) (.tmp 18) 29 rfl B 59 _ 2 16 Tryz.underlying29 Qz rfl Ua v l.length (cdC l) _ 1 1 (cdC [(2,f)]) rfl (Js S1.out.own) rfl (Qr rfl rfl) (Q2 _) Ua Ua Dy ?_;intro v2 w2 ao aG aI;have S2:=Nf ((S1.out.bel (Jc (Nt) _)).app ao aG aI);have q0:=Na w2 (w.heap.size+1) 0 1 (Jr (aG.block (w.heap.size+1) Uj (fun he=>by have:=(S0.out.own.lt _ he.symm).2;omega)) (J4 q01))))
    | (go_at_call_of 27 (Value.int IntKind.i64 2);go_loud (refine(Xo _ _ n2 _).mono ?_;rintro r w1 ⟨rfl,ac⟩;have S1:=Nf (S0.out.bel (Jd aC ac));have q01:=Ja ac q00;have ak:=Jg ac;have af:=ac.size))
    | (go_at_call 28;go_loud (refine(ea _ (K0 Jb)).mono ?_;rintro r wa ⟨rfl,aA⟩;have aW:=Jg aA;have cN:w.heap.size+2<=wa.heap.size:=Ut;have dG:=ltA w 1 wa;have hyaa:=lt0 w wa;have aC:=Nd w wa Jb;have q00:=Na wa (w.heap.size+1) 0 1 Udi)))
  go_ret;exact⟨_,rfl,by rw [HU1.out,<-List.append_assoc,<-List.append_assoc];exact S6.out⟩
 ·generalize Jp L cs=f at *
  go_enter Tryz.func31,Tryz.ntmps31
  go_wp2_with (first
    | (at_builtin;refine Qv rfl (.tmp 33) (.tmp 34) 29 rfl B 59 _ 2 16 Tryz.underlying29 Qz rfl Ua v5 _ _ A2 x.length c2 (cdC x) rfl S5.out.own rfl (H2.out _ S5.out.grow).2.2 (Q2 _) Uj Ua (S5.out.base hB) ?_;intro v6 w6 fi ue yt;have S6:=Nf (S5.out.app fi ue yt))
    | (at_builtin;(first|refine Qv rfl (.tmp 27) (.tmp 31) 29 rfl B 59 _ 2 16 Tryz.underlying29 Qz rfl Ua v8 _ _ _ 1 1 (cdC [(11,(x.length:Int))]) rfl (Js S4.out.own) rfl (Qr rfl rfl) (Q2 _) Uj Ua Fx ?_|refine Qv rfl (.tmp 27) (.tmp 31) 29 rfl B 59 _ 2 16 Tryz.underlying29 Qz rfl Ua v2 _ _ _ 1 1 (cdC [(11,(x.length:Int))]) rfl (Js S4.out.own) rfl (Qr rfl rfl) (Q2 _) Uj Ua Fx ?_);intro v5 w5 bX eT jr;have S5:=Nf ((S4.out.bel (Jc (Nt) _)).app bX eT jr))
    | (go_at_call_of 27 (Value.int IntKind.i64 11);go_loud (refine(Xo _ _ n1 _).mono ?_;rintro r w4 ⟨rfl,ei⟩;first|have S4:=Nf (S8.out.bel ei)|have S4:=Nf (S2.out.bel ei)))
    | (at_builtin;refine Qv rfl (.tmp 23) (.tmp 25) 29 rfl B 59 _ 2 16 Tryz.underlying29 Qz rfl Ua v2 _ _ _ 1 1 (cdC [(8,2)]) rfl (Js S7.out.own) rfl (Qr rfl rfl) (Q2 _) Uj Ua (by have:=S7.out.base hB;simp;omega) ?_;intro v8 w8 pq hg8 hv8;have S8:=Nf ((S7.out.bel (Jc (Nt) _)).app pq hg8 hv8))
    | (go_at_call_of 27 (Value.int IntKind.i64 8);go_loud (refine(Xo _ _ n3 _).mono ?_;rintro r w7 ⟨rfl,hb7⟩;have S7:=Nf (S2.out.bel hb7)))
    | (at_builtin;go_loud (refine Qv rfl (.tmp 12) (.tmp 18) 29 rfl B 59 _ 2 16 Tryz.underlying29 Qz rfl Ua v l.length (cdC l) _ 1 1 (cdC [(2,f)]) rfl (Js S1.out.own) rfl (Qr rfl rfl) (Q2 _) Ua Ua Dy ?_;intro v2 w2 ao aG aI;have S2:=Nf ((S1.out.bel (Jc (Nt) _)).app ao aG aI);have q0:=Na w2 (w.heap.size+1) 0 2 (Jr (aG.block (w.heap.size+1) Uj (fun he=>by have:=(S0.out.own.lt _ he.symm).2;omega)) (J4 q01))))
    | (go_at_call_of 27 (Value.int IntKind.i64 2);go_loud (refine(Xo _ _ n2 _).mono ?_;rintro r w1 ⟨rfl,ac⟩;have S1:=Nf (S0.out.bel (Jd aC ac));have q01:=Ja ac q00;have ak:=Jg ac;have af:=ac.size))
    | (go_at_call 28;go_loud (refine(ea _ (K0 Jb)).mono ?_;rintro r wa ⟨rfl,aA⟩;have aW:=Jg aA;have cN:w.heap.size+2<=wa.heap.size:=Ut;have dG:=ltA w 1 wa;have hyaa:=lt0 w wa;have aC:=Nd w wa Jb;have q00:=Na wa (w.heap.size+1) 0 2 Udi)))
  go_ret;exact⟨_,rfl,by rw [HU2.out,<-List.append_assoc,<-List.append_assoc,<-List.append_assoc];exact S6.out⟩
theorem Jum:(Tryz.prog.info? 29).map (fun i=>(i.zero,i.size,i.bytes))=some (some (.slice none 0 0),1,24):=Ug
theorem Ex.genL_at (sl:ByteArray->Int) (fl:Int×ByteArray->Int) (k:Int) (s:ByteArray) (c:Int×ByteArray):∀(r:List Ex) (i j:Nat) (x:Ex),r[j]?=some x->(Ex.genL sl fl k s c i r)[j]?=some (x.gen sl fl (K4 k s c (i+j)))
 | [],i,j,x,h=>Lt
 | y :: r,i,0,x,h=>by simp at h;subst h;rw [Ex.genL];rfl
 | y :: r,i,j+1,x,h=>by
  rw [Ex.genL,show i+(j+1)=i+1+j from by omega];have:=Ex.genL_at sl fl k s c r (i+1) j x Ve;simpa using this
theorem Jet {α:Type} {l:List α} (h:l.length=1):∃a,l = [a]:=by
 match l,h with
 | [a],_=>exact⟨a,rfl⟩
theorem Jew {α:Type} {l:List α} (h:l.length=2):∃a b,l = [a,b]:=by
 match l,h with
 | [a,b],_=>exact⟨a,b,rfl⟩
theorem Jmy {α:Type} {l:List α} (h:l.length=3):∃a b c,l = [a,b,c]:=by
 match l,h with
 | [a,b,c],_=>exact⟨a,b,c,rfl⟩
structure Ja8 (B:Nat) (wr:World) (v:Value) (us:List Value) (cs:List (List (Int×Int))):Prop where
 len:us.length=cs.length
 own:wr.ownsRow B 29 1 v us.length us
 each:∀(j:Nat) (u:Value) (c:List (Int×Int)),us[j]?=some u->cs[j]?=some c->wr.ownsRow B 59 2 u c.length (cdC c)/\∀b,u.ownBlock=some b->v.ownBlock≠some b
 apart:∀(i j:Nat) (u u':Value),i≠j->us[i]?=some u->us[j]?=some u'->∀b,u.ownBlock=some b->u'.ownBlock≠some b
theorem Ja8.nil {B:Nat} {wr:World} : Ja8 B wr (.slice none 0 0) [] []:=
 ⟨rfl,Nw,fun j u c h=>Lt,fun i j u u' _ h=>Lt⟩
theorem Ja8.step {B base:Nat} {wr w1 w2 w3:World} {v v3 u:Value} {us:List Value} {cs:List (List (Int×Int))} {c:List (Int×Int)} (h:Ja8 B wr v us cs) (hB:B<=wr.heap.size) (ac:Below wr.heap.size wr w1) (aK:wr.heap.size<=base)
  (hu:w1.ownsRow base 59 2 u c.length (cdC c)) (aq:Below w1.heap.size w1 w2) (ae:w3.ownsRow B 29 1 v3 (us.length+1) (us ++ [u])) (hg:w2.grownBy w3 v.ownBlock)
  (hv:v3.ownBlock=v.ownBlock\/∀b,v3.ownBlock=some b->w2.heap.size<=b):Ja8 B w3 v3 (us ++ [u]) (cs ++ [c]):=by
 have af:=ac.size;have br:=aq.size;have hU:∀b,v.ownBlock=some b->b<wr.heap.size:=fun b hb=>(h.own.lt b hb).2;have wM:∀b,u.ownBlock=some b->wr.heap.size<=b/\b<w1.heap.size:=fun b hb=>by have:=hu.lt b hb;omega
 have ai:=h.len
 have lV:∀(j:Nat) (x:Value),(us ++ [u])[j]?=some x->(us[j]?=some x/\j<us.length)\/(j=us.length/\x=u):=fun j x hx=>by
  rcases Nat.lt_or_ge j us.length with hj|hj
  ·rw [List.getElem?_append_left hj] at hx;exact .inl ⟨hx,hj⟩
  ·have h1:=(Nh hx).1;rw [Nk,List.length_singleton] at h1;obtain rfl:j=us.length:=Ua;rw [List.getElem?_append_right (Ns _)] at hx;simp at hx;exact .inr ⟨rfl,hx.symm⟩
 have pt:∀(j:Nat) (x:Value),us[j]?=some x->∀b,x.ownBlock=some b->b<wr.heap.size:=fun j x hx b hb=>by
  have hj:=(Nh hx).1;have hc:cs[j]?=some (cs[j]' Ua):=Ng _;exact((h.each j x _ hx hc).1.lt b hb).2
 refine⟨by simp [ai],by simpa using ae,fun j x d hx hd=>?_,fun i j x y hij hx hy b hb he=>?_⟩
 ·rcases lV j x hx with ⟨hx,hj⟩|⟨rfl,rfl⟩
  ·rw [List.getElem?_append_left Ua] at hd;obtain⟨h1,h2⟩:=h.each j x d hx hd;exact⟨X5 (Jy (Jy h1 ac) aq) hg (Jcu h2),Jmf h2 (fun b hb=>by have:=(h1.lt b hb).2;omega) hv⟩
  ·rw [ai,List.getElem?_append_right (Ns _)] at hd;simp at hd;subst hd;refine⟨X5 (K8 (Jy hu aq) Ua) hg (fun b hb he=>by have:=hU b hb;have:=wM b he;omega),fun b hb he=>?_⟩;have h1:=wM b hb
   rcases hv with hv|hv
   ·rw [hv] at he;have:=hU b he;omega
   ·have:=hv b he;omega
 ·rcases lV i x hx with ⟨hx1,hi⟩|⟨hi,hxu⟩ <;> rcases lV j y hy with ⟨bV,hj⟩|⟨hj,hyu⟩
  ·exact h.apart i j x y hij hx1 bV b hb he
  ·rw [hyu] at he;have:=pt i x hx1 b hb;have:=wM b he;omega
  ·rw [hxu] at hb;have:=pt j y bV b he;have:=wM b hb;omega
  ·exact Ua
theorem Ja8.at {B:Nat} {wr:World} {v:Value} {us:List Value} {cs:List (List (Int×Int))} (h:Ja8 B wr v us cs) {j:Nat} {u:Value} {c:List (Int×Int)} (hu:us[j]?=some u) (hc:cs[j]?=some c):∃A cap,u = .slice A c.length cap/\J3 wr c A cap:=
 J3.of_own (h.each j u c hu hc).1
theorem Jex (w:World) (x:Int×Int) (t:TypeId) (h:t=59:=by rfl):(w.alloc (.cells #[.int .i64 x.1,.int .i32 x.2] t)).ownsRow w.heap.size 59 2 (.slice (some ⟨w.heap.size,0,none⟩) 1 1) 1 (cdC [x]):=by
 subst h;exact⟨rfl,.inr ⟨w.heap.size,1,#[.int .i64 x.1,.int .i32 x.2],rfl,Ns _,heap_alloc_new w _,Ns _,U2,rfl,rfl⟩⟩
theorem Jw5 {n:Int} (h:I32 n):IntKind.i64.wrap n=n:=by unfold I32 at h;exact IntWalk.i64_in _ Ua
theorem X9.of {w W:World} {B n:Nat} {v:Value} {xs:List Value} {l:List (Int×Int)} (h:W.ownsRow B 59 2 v n xs) (hn:n=l.length) (hx:xs=cdC l) (hB:w.heap.size<=B) (hb:Below w.heap.size w W):X9 w l (.returned v) W:=by
 subst hn hx;exact⟨⟨v,rfl,K8 h hB⟩,hb⟩
theorem Ja8.aside {B:Nat} {wr w:World} {v u:Value} {us:List Value} {cs:List (List (Int×Int))} (h:Ja8 B wr v us cs) {i j:Nat} {A:Option Addr} {cap:Nat} {c:List (Int×Int)} (hij:i≠j) (hu:us[i]?=some u) (hu':us[j]?=some (.slice A c.length cap)) (hc:cs[j]?=some c) (hb:Below wr.heap.size wr w) :
  Jf1 w u.ownBlock fun W=>J3 W c A cap:=fun W hg=>by
 have h1:=X5 (Jy (h.each j _ c hu' hc).1 hb) hg (h.apart i j u _ hij hu hu');obtain⟨A',cap',hv,aY⟩:=J3.of_own h1;injection hv with e1 e2 e3;subst e1 e3;exact aY
theorem Jfv {P:World->Prop} {W1 w:World} (hP:∀W,Below W1.heap.size W1 W->P W) (hb:Below W1.heap.size W1 w) {r:Option Nat} (hr:∀b,r=some b->W1.heap.size<=b):Jf1 w r P:=fun W hg=>hP W (J2 hb hg hr hb.size)
def Jvq (L:List Va) (C:List Ce) (Av:Option Addr) (cv:Nat) (Ac:Option Addr) (cc:Nat) (x:Ex):Prop:=∀(A:Option Addr) (cap:Nat) (ck:Int) (cs:ByteArray) (w:World),Ju w L Av cv->Jbh w C Ac cc->Jt w x A cap->
 Calls Tryz.prog 30 #[.agg #[.slice Av L.length cv,.slice Ac C.length cc],exV x A cap,.agg #[.int .i64 ck,.string cs]] w (X9 w (x.gen (Jp L) (Kg C) (ck,cs)))
theorem Jus {C:List Ce} (h:C.length<=1000000) (d:Int×ByteArray):I32 (Kg C d):=by
 unfold I32 Kg
 rcases Jf3 d C 0 with h1|h1 <;> omega
theorem Js1 (L:List Va) (C:List Ce) (Av:Option Addr) (cv:Nat) (Ac:Option Addr) (cc:Nat) (hL:L.length<=1000000) (hC:C.length<=1000000) (e:Ex):e.formed=true->e.OK->e.size<=200000->Jvq L C Av cv Ac cc e:=by
 induction e using Ex.ind with
 | h e ih=>
 intro hf aw hz A cap ck cs w cR aW he
 have ih2:∀x∈e.sub,Jvq L C Av cv Ac cc x:=fun x hx=>ih x hx (Q9 hf x hx) (Ex.OK_sub aw hx) (by
  obtain⟨k,hk⟩:=List.getElem?_of_mem hx;have:=Ex.size_mem e.sub k x hk;have:=Ex.size_eq e;omega)
 have yu:I32 e.n:=by cases e;simp only [Ex.OK] at aw;exact aw.2.1
 have hfk:=hf;rw [Ex.formed_eq,Bool.and_eq_true] at hfk;have dj:=Jn3 hfk.1;have eS:=Ex.gen_len (Jp L) (Kg C) e (ck,cs);have hgE:=Ex.gen_eq (Jp L) (Kg C) e (ck,cs);have dS:=Ex.genL_len (Jp L) (Kg C) e.kind e.name (ck,cs) e.sub 0;have hpa:=Ex.genL_at (Jp L) (Kg C) e.kind e.name (ck,cs) e.sub 0;have uf:=fun s=>Jd3 hL s;have gM:=fun d=>Jus hC d;have ea:=fun s W (h:Below w.heap.size w W)=>Jdt L Av cv (.slice Ac C.length cc) s W (cR.later h);have fj:=fun W (h:Below w.heap.size w W)=>Jtu (.slice Av L.length cv) C Ac cc ck cs W (aW.later h) hC;have ai:=he.len;unfold maxLen at ai;obtain⟨bI,aD⟩:=ai;have fE:e.sub.length<=3:=Ua;have sH:=fun W=>Jg4 e A cap ck cs W Ua;generalize wu:Ex.genL (Jp L) (Kg C) e.kind e.name (ck,cs) 0 e.sub=ps at *;have jG:=Nf hgE;have lo:=Nf dj;have HPA:=Nf hpa;have jW:=Nf dS;have lW:=Nf eS;clear hgE dj hpa dS wu eS hf hfk aw ih;unfold exV at *
 go_enter Tryz.func30,Tryz.ntmps30
 go_wp2_with (first|(go_at_call 56;go_loud (refine(sH _).mono ?_;rintro r wa ⟨⟨dv,rfl,ay⟩,aA⟩;obtain⟨D,cd,rfl,js,gN⟩:=Jv ay;have hcba:=Jg aA;have cN:w.heap.size+3<=wa.heap.size:=Ut)))
 refine Jo fun W0 ag=>?_;have ax:=Nd w W0 Uo;have bD:w.heap.size+3<=W0.heap.size:=by rw [ag];exact cN
 have hyy0:=lt0 w wa;have pu:=ltA w 1 wa;have hyy2:w.heap.size+1+1<wa.heap.size:=Ua;have m0:=Nb W0 w.heap.size 0 (.slice Av L.length cv) Uc;have m1:=Nb W0 w.heap.size 1 (.slice Ac C.length cc) Uc;have p0:=Na W0 (w.heap.size+1) 0 e.kind Uc;have p1:=Nb W0 (w.heap.size+1) 1 (.int .i32 e.n) Uc;have p2:=Nb W0 (w.heap.size+1) 2 (.string e.name) Uc;have p3:=Nb W0 (w.heap.size+1) 3 (.slice A e.sub.length cap) Uc;have c0:=Na W0 (w.heap.size+1+1) 0 ck Uc;have c1:=Nb W0 (w.heap.size+1+1) 1 (.string cs) Uc;have mV:W0.ownsRow (w.heap.size+1+1+1) 55 2 (.slice D e.sub.length cd) e.sub.length (Yx e.kind e.name (ck,cs) e.sub.length):=by rw [ag];simpa using ay
 have hsi:=Jum;have hzz0:=lt0 w W0;have hzz1:=ltA w 1 W0;have kG:w.heap.size+1+1<W0.heap.size:=Ua;unfold maxLen at gN;clear ag hcba cN ay aA sH hyy0 pu hyy2
 go_loopw [8,9] (fun P i wr=>∃(k:Nat) (us:List Value),k<=e.sub.length/\i = .int .i64 k/\Hid (us.length=k)/\Hid (Ja8 W0.heap.size wr P us (ps.take k))/\Below W0.heap.size W0 wr) (fun _ i _=>e.sub.length-(intOf i).toNat)
 case atStart=>exact⟨0,[],Np,rfl,Nf rfl,Nf (by rw [List.take_zero];exact Ja8.nil),Nt⟩
 case round=>
  obtain⟨k,us,hk,rfl,hus,cP,ab⟩:=hrel;have bu:=ab.size;have hc:=Jg ab;have jl:=lt0 w wr;have bV:=ltA w 1 wr;have gq:w.heap.size+1+1<wr.heap.size:=Ua;have aC:=Nd w wr (Jn ax ab Ua)
  by_cases am:k<e.sub.length
  ·have hx:e.sub[k]?=some e.sub[k]:=Ng am;have aj:e.sub[k]∈e.sub:=Nj am;generalize e.sub[k]=x at hx aj;have hpx:=HPA.out k x hx;rw [Nat.zero_add] at hpx;obtain⟨b,off,A',cap',rfl,d0,d1,d2,d3,hs⟩:=(he.later ax).get hx;obtain⟨dg,dcap,yv,wN,nG,_,_,pw⟩:=Kc mV Ua;injection yv with hd1' hd2' hd3';subst hd1' hd3';have aY:=Jfy e.kind e.name (ck,cs) am;have f0:=pw _ _ aY.1;have f1:=pw _ _ aY.2;have sF:=fun c1 c2 W (hb:Below W0.heap.size W0 W)=>ih2 x aj A' cap' c1 c2 W (cR.later (Jn ax hb ax.size)) (aW.later (Jn ax hb ax.size)) (hs.later hb);obtain⟨wk,ws,lD⟩:∃wk ws,K4 e.kind e.name (ck,cs) k=(wk,ws):=⟨_,_,rfl⟩;rw [lD] at hpx f0 f1;have aP:ps.take (k+1)=ps.take k ++ [x.gen (Jp L) (Kg C) (wk,ws)]:=by rw [List.take_add_one,hpx];rfl
   have hHH:=fun W hb=>sF wk ws W hb;unfold exV at hHH;dsimp only at f0 f1 hHH;have eZ:=Nf aP;have xT:=Nf hHH
   have hS:∀w',Below W0.heap.size W0 w'->w'.cell? ⟨w.heap.size,0,none⟩=some (.slice Av L.length cv)/\w'.cell? ⟨w.heap.size,1,none⟩=some (.slice Ac C.length cc)/\w'.cell? ⟨w.heap.size+1,3,none⟩=some (.slice (some ⟨b,off,none⟩) e.sub.length cap)/\
     w'.cell? ⟨b,off+k * 4,none⟩=some (.int .i64 x.kind)/\w'.cell? ⟨b,off+k * 4+1,none⟩=some (.int .i32 x.n)/\w'.cell? ⟨b,off+k * 4+2,none⟩=some (.string x.name)/\w'.cell? ⟨b,off+k * 4+3,none⟩=some (.slice A' x.sub.length cap')/\w'.cell? ⟨dg,k * 2,none⟩=some (.int .i64 wk)/\w'.cell? ⟨dg,k * 2+1,none⟩=some (.string ws):=fun w' hb=>
    ⟨Ja hb m0,Ja hb m1,Ja hb p3,Ja hb d0,Ja hb d1,Ja hb d2,Ja hb d3,Ja hb f0,Ja hb f1⟩
   have HS:=Nf hS;have ar:=hS wr.drew (Jh ab);clear hx hpx aY pw d0 d1 d2 d3 hs f0 f1 sF lD aP hHH hS;generalize x.gen (Jp L) (Kg C) (wk,ws)=xc at *
   go_wp2_with fail
   refine Kd (fun w'=>w'.cell? ⟨w.heap.size,0,none⟩=some (.slice Av L.length cv)/\w'.cell? ⟨w.heap.size,1,none⟩=some (.slice Ac C.length cc)/\w'.cell? ⟨w.heap.size+1,3,none⟩=some (.slice (some ⟨b,off,none⟩) e.sub.length cap)/\w'.cell? ⟨b,off+k * 4,none⟩=some (.int .i64 x.kind)/\w'.cell? ⟨b,off+k * 4+1,none⟩=some (.int .i32 x.n)/\w'.cell? ⟨b,off+k * 4+2,none⟩=some (.string x.name)/\w'.cell? ⟨b,off+k * 4+3,none⟩=some (.slice A' x.sub.length cap')/\w'.cell? ⟨dg,k * 2,none⟩=some (.int .i64 wk)/\w'.cell? ⟨dg,k * 2+1,none⟩=some (.string ws)) 14 1 Ug Gd ?_;simp only [List.size_toArray,Nl,Nm,Nat.zero_add,Nat.reduceAdd];refine Ji 0 ar ?_;refine Ji 1 ar ?_;refine Ji 2 ar ?_;refine Ji 3 ar ?_;refine Ji 4 ar ?_;refine Ji 5 ar ?_;refine Ji 6 ar ?_;refine Ji 7 ar ?_;refine Ji 8 ar ?_;refine Ji 9 ar ?_;refine Ji 10 ar ?_;refine Kb 11 ?_;refine Jj fun K hK=>?_;go_simp;refine(xT.out wr.drew (Jh ab)).mono ?_;rintro r w1 ⟨⟨u,rfl,hu⟩,ac⟩;dsimp only;obtain⟨Au,cu,rfl,hcu1,hcu2⟩:=Jv hu;have gS:=Nd wr w1 (Jd (Jh (Nt)) ac);refine hK _ _ ⟨HS.out _ (Jn ab gS ab.size),?_⟩;clear hK K
   try simp only [Act.put,sa1,sa2,sa3]
   refine Kb 12 ?_;refine Jj fun K hK=>?_;go_simp;refine hK _ _ ⟨HS.out _ (Jc (Jn ab gS ab.size) _),?_⟩;clear hK K
   try simp only [Act.put,sa1,sa2,sa3]
   have af:=gS.size;refine Kb 13 ?_;refine Jez (.tmp 21) (.tmp 33) 111 rfl W0.heap.size 29 _ 1 24 Tryz.underlying111 hsi rfl Ua u8 us.length us _ 1 1 [.slice Au xc.length cu] rfl (Js (Jy cP.out.own gS)) rfl (Qr rfl rfl) Uv (by have:=hus.out;omega) Ua (by have:=ab.size;simp;omega) ?_;intro v3 w3 aE bJ iM;have aM:=Nd W0 w3 (J2 (Jc (Jn ab gS ab.size) _) bJ (fun b hb=>(cP.out.own.lt b hb).1) Uj);have oC:=HS.out _ aM;refine⟨oC,Kh Ug ?_⟩
   try simp only [Act.put,sa1,sa2,sa3]
   refine Qx 14 ?_;refine Jj fun K hK=>?_;go_simp;refine hK _ _ ?_;clear hK K
   try simp only [Act.put,sa1,sa2,sa3]
   refine Ki Ug ?_;have HST3:=Nf (cP.out.step Ua gS Ul hu (Jc (Nt) _) aE bJ iM);clear ar oC aE bJ iM hu HS
   go_wp2_with fail
   go_roundw
   case rel=>exact⟨k+1,us ++ [.slice Au xc.length cu],Ua,Up,Nf (by rw [Nk,hus.out];rfl),Nf (by rw [eZ.out];exact HST3.out),aM⟩
   case measure=>simp [intOf];omega
  ·obtain rfl:k=e.sub.length:=Ua;obtain⟨W1,rfl⟩:∃W1,W1=wr:=⟨wr,rfl⟩;have hST:=cP.out;rw [List.take_of_length_le (by rw [jW.out];exact Ns _)] at hST;have cJ:=Nf hST;replace m0:=Ja ab m0;replace m1:=Ja ab m1;replace p0:=Ja ab p0;replace p1:=Ja ab p1;replace p2:=Ja ab p2;replace p3:=Ja ab p3;replace c0:=Ja ab c0;replace c1:=Ja ab c1;have hw64:IntKind.i64.wrap e.n=e.n:=Jw5 yu;have dV:=fun(op:Int) W=>Xo op e.n yu W;have lX:=hus.out;clear cP hST hc ih2 mV js gN hsi HPA
   rcases lo.out with ⟨hk,hl⟩|⟨hk,hl⟩|⟨hk,hl⟩|⟨hk,hl,_,_⟩|⟨hk,hl,_,_⟩|⟨hk,hl⟩|⟨hk,hl⟩|⟨hk,hl⟩|⟨hk,hl⟩|⟨hk,hl⟩
   ·have hv:e.gen (Jp L) (Kg C) (ck,cs) = [(1,e.n)]:=Vx;have t1:(e.kind == 1)=true:=Ud;have t2:(e.kind == 2)=false:=Ud;exact Uak
   ·have hv:e.gen (Jp L) (Kg C) (ck,cs) = [(1,e.n)]:=Vx;have t1:(e.kind == 1)=false:=Ud;have t2:(e.kind == 2)=true:=Ud;exact Uak
   ·have hv:e.gen (Jp L) (Kg C) (ck,cs) = [(2,Jp L e.name)]:=Vx;have t1:(e.kind == 1)=false:=Ud;have t2:(e.kind == 2)=false:=Ud;have t3:(e.kind == 3)=true:=Ud;have t4:(e.kind == 4)=false:=Ud;have t5:(e.kind == 5)=false:=Ud;have t6:(e.kind == 6)=false:=Ud;have t7:(e.kind == 7)=false:=Ud;have t10:(e.kind == 10)=false:=Ud;have HV:=Nf hv;have pC:=fun W=>Xo 2 (Jp L e.name) (uf e.name) W;have dF:=fun W (hb:Below W1.heap.size W1 W)=>ea e.name W (Jn aC hb aC.size);generalize Jp L e.name=fn at *;clear hv hk hl dV lo jG lW ea fj
    go_wp2_with (first
     | (go_at_call 28;go_loud (refine(dF _ (Nt)).mono ?_;rintro r w2 ⟨rfl,aq⟩))
     | (go_at_call 27;go_loud (refine(pC _).mono ?_;rintro r w3 ⟨rfl,aM⟩)))
    go_ret;rw [HV.out];exact X9.of (n:=1) (xs:=cdC [(2,fn)]) (Jex _ _ _) rfl rfl (by have:=aq.size;have:=aM.size;omega) (Jc (Jn (Jn aC aq aC.size) aM (by have:=aq.size;omega)) _)
   ·obtain⟨u0,rfl⟩:=Jet (lX.trans hl);obtain⟨q0,rfl⟩:=Jet (jW.out.trans hl);have hv:e.gen (Jp L) (Kg C) (ck,cs)=q0 ++ [(8,e.n)]:=Vx;have eS:=lW.out;rw [hv,Nk] at eS;have HV:=Nf hv;have t1:(e.kind == 1)=false:=Ud;have t2:(e.kind == 2)=false:=Ud;have t3:(e.kind == 3)=false:=Ud;have t4:(e.kind == 4)=true:=Ud;have t5:(e.kind == 5)=false:=Ud;have t6:(e.kind == 6)=false:=Ud;have t7:(e.kind == 7)=false:=Ud;have t10:(e.kind == 10)=false:=Ud;obtain⟨A0,a0,rfl,kP⟩:=cJ.out.at (j:=0) rfl rfl;obtain⟨g,gc,rfl,wO,ka,eN,aG,il⟩:=Kc cJ.out.own Ul;have l0:=il 0 _ rfl;have dN:=kP.1;have dR:=kP.2.1;unfold maxLen at aG dR;clear hv hk il lo jG lW ea fj
    go_wp2_with (first
     | (at_builtin;refine K6 rfl (.tmp 55) (.tmp 58) 29 rfl W1.heap.size 59 _ 2 16 Tryz.underlying29 Qz rfl Ua (.slice none 0 0) 0 [] A0 q0.length a0 (cdC q0) rfl (Nw) rfl kP.2.2 (Q2 _) Ua Ua (Ns _) ?_;intro v2 w2 ao aq;have e1:=Ja aq p1;have br:=aq.size;have hyx:=ltA w 1 w2)
     | (go_at_call 27;go_loud (refine(dV 8 _).mono ?_;rintro r w3 ⟨rfl,aM⟩;have fe:=aM.size))
     | (at_builtin;refine K6 rfl (.tmp 60) (.tmp 65) 29 rfl W1.heap.size 59 _ 2 16 Tryz.underlying29 Qz rfl Ua v2 _ _ _ 1 1 (cdC [(8,e.n)]) rfl (Js (Jy ao aM)) rfl (Qr rfl rfl) (Q2 _) Ua Ua Uj ?_;intro v4 w4 cj ei))
    go_ret;rw [HV.out];exact X9.of cj Ul (by rw [Jbr];rfl) Ua (Jn aC ((Jc (aq.trans (aM.mono br)) _).trans ei) aC.size)
   ·obtain⟨u0,u1,rfl⟩:=Jew (lX.trans hl);obtain⟨q0,q1,rfl⟩:=Jew (jW.out.trans hl);have hv:e.gen (Jp L) (Kg C) (ck,cs)=q0 ++ q1 ++ [(9,e.n)]:=Vx;have eS:=lW.out;rw [hv,Nk,Nk] at eS;have HV:=Nf hv;have t1:(e.kind == 1)=false:=Ud;have t2:(e.kind == 2)=false:=Ud;have t3:(e.kind == 3)=false:=Ud;have t4:(e.kind == 4)=false:=Ud;have t5:(e.kind == 5)=true:=Ud;have t6:(e.kind == 6)=false:=Ud;have t7:(e.kind == 7)=false:=Ud;have t10:(e.kind == 10)=false:=Ud;obtain⟨A0,a0,rfl,kP⟩:=cJ.out.at (j:=0) rfl rfl;obtain⟨A1,a1,rfl,pD⟩:=cJ.out.at (j:=1) rfl rfl;obtain⟨g,gc,rfl,wO,ka,eN,aG,il⟩:=Kc cJ.out.own Ul;have l0:=il 0 _ rfl;have l1:=il 1 _ rfl;have dN:=kP.1;have dR:=kP.2.1;have iI:=pD.1;have qQ:=pD.2.1;unfold maxLen at aG dR qQ;clear hv hk il lo jG lW ea fj
    go_wp2_with (first
     | (at_builtin;refine K6 rfl (.tmp 69) (.tmp 72) 29 rfl W1.heap.size 59 _ 2 16 Tryz.underlying29 Qz rfl Ua (.slice none 0 0) 0 [] A0 q0.length a0 (cdC q0) rfl (Nw) rfl kP.2.2 (Q2 _) Ua Ua (Ns _) ?_;intro v2 w2 ao aq;have e2:=Ja aq l1;have br:=aq.size;have ox:g<w2.heap.size:=Ua)
     | (at_builtin;refine K6 rfl (.tmp 74) (.tmp 77) 29 rfl W1.heap.size 59 _ 2 16 Tryz.underlying29 Qz rfl Ua v2 _ _ A1 q1.length a1 (cdC q1) rfl ao rfl (pD.later aq).2.2 (Q2 _) Ua Ua br ?_;intro v5 w5 bX da;have ug:=aq.trans da;have e1:=Ja ug p1;have yx:=ug.size;have hyx:=ltA w 1 w5)
     | (go_at_call 27;go_loud (refine(dV 9 _).mono ?_;rintro r w3 ⟨rfl,aM⟩;have fe:=aM.size))
     | (at_builtin;refine K6 rfl (.tmp 79) (.tmp 84) 29 rfl W1.heap.size 59 _ 2 16 Tryz.underlying29 Qz rfl Ua v5 _ _ _ 1 1 (cdC [(9,e.n)]) rfl (Js (Jy bX aM)) rfl (Qr rfl rfl) (Q2 _) Ua Ua Uj ?_;intro v4 w4 cj ei))
    go_ret;rw [HV.out];exact X9.of cj Uj (by rw [Jbr,Jbr];rfl) Ua (Jn aC ((Jc (ug.trans (aM.mono yx)) _).trans ei) aC.size)
   ·obtain⟨u0,u1,u2,rfl⟩:=Jmy (lX.trans hl);obtain⟨q0,q1,q2,rfl⟩:=Jmy (jW.out.trans hl);have hv:e.gen (Jp L) (Kg C) (ck,cs)=Yv q0 q1 q2:=Vx;have eS:=lW.out;rw [hv,Ex.choice_len] at eS;have HV:=Nf hv;have t1:(e.kind == 1)=false:=Ud;have t2:(e.kind == 2)=false:=Ud;have t3:(e.kind == 3)=false:=Ud;have t4:(e.kind == 4)=false:=Ud;have t5:(e.kind == 5)=false:=Ud;have t6:(e.kind == 6)=true:=Ud;have t7:(e.kind == 7)=false:=Ud;have t10:(e.kind == 10)=false:=Ud;have eV:=cJ.out.each 0 u0 q0 rfl rfl;obtain⟨A0,a0,rfl,kP⟩:=cJ.out.at (j:=0) rfl rfl;obtain⟨A1,a1,rfl,pD⟩:=cJ.out.at (j:=1) rfl rfl;obtain⟨A2,a2,rfl,hI2⟩:=cJ.out.at (j:=2) rfl rfl;obtain⟨g,gc,rfl,wO,ka,eN,aG,il⟩:=Kc cJ.out.own Ul;have l0:=il 0 _ rfl;have l1:=il 1 _ rfl;have l2:=il 2 _ rfl;unfold maxLen at aG;have ct:Below W1.heap.size W1 W1.drew:=Jh (Nt);have fJ:=Jf4 W0.heap.size (.slice A0 q0.length a0) q0 q1 q2 A1 a1 A2 a2 W1.drew ab.size (Kp eV.1) (cJ.out.aside (i:=0) (j:=1) Ux rfl rfl rfl ct) (cJ.out.aside (i:=0) (j:=2) Ux rfl rfl rfl ct) Ua;unfold Jcc at fJ;have aS:some g≠(Value.slice A0 q0.length a0).ownBlock:=fun he=>eV.2 g he.symm rfl;have wM:∀b,(Value.slice A0 q0.length a0).ownBlock=some b->W0.heap.size<=b:=fun b hb=>(eV.1.lt b hb).1;have HCH:=Nf fJ;clear hv hk il lo jG lW ea fj fJ eV kP pD hI2 ct dV
    go_wp2_with fail
    refine Kd (fun w'=>w'.cell? ⟨g,0,none⟩=some (.slice A0 q0.length a0)/\w'.cell? ⟨g,1,none⟩=some (.slice A1 q1.length a1)/\w'.cell? ⟨g,2,none⟩=some (.slice A2 q2.length a2)) 10 1 Ug Gd ?_;simp only [List.size_toArray,Nl,Nm,Nat.zero_add,Nat.reduceAdd];have ar:W1.drew.cell? ⟨g,0,none⟩=some (.slice A0 q0.length a0)/\W1.drew.cell? ⟨g,1,none⟩=some (.slice A1 q1.length a1)/\W1.drew.cell? ⟨g,2,none⟩=some (.slice A2 q2.length a2):=⟨l0,l1,l2⟩;refine Ji 0 ar ?_;refine Ji 1 ar ?_;refine Ji 2 ar ?_;refine Ji 3 ar ?_;refine Ji 4 ar ?_;refine Ji 5 ar ?_;refine Ji 6 ar ?_;refine Ji 7 ar ?_;refine Ji 8 ar ?_;refine Kb 9 ?_;refine Jj fun K hK=>?_;go_simp;refine(HCH.out).mono ?_;rintro r w2 ⟨v2,rfl,hR⟩;dsimp only;have bB:W1.grownBy w2 (Value.slice A0 q0.length a0).ownBlock:=Kv (K0 (Jh (Nt))) hR.grow;refine hK _ _ ⟨⟨Jr (bB.block g ka aS) l0,Jr (bB.block g ka aS) l1,Jr (bB.block g ka aS) l2⟩,?_⟩;clear hK K
    try simp only [Act.put,sa1,sa2,sa3]
    refine Kh Ug ?_;refine Qx 10 ?_;refine Jj fun K hK=>?_;go_simp;refine hK _ _ ?_;clear hK K
    try simp only [Act.put,sa1,sa2,sa3]
    refine Ki Ug ?_
    go_wp2_with fail
    go_ret;rw [HV.out];exact X9.of hR.own rfl rfl Ua (J2 aC bB (fun b hb=>by have:=wM b hb;omega) aC.size)
   ·obtain⟨u0,u1,rfl⟩:=Jew (lX.trans hl);obtain⟨q0,q1,rfl⟩:=Jew (jW.out.trans hl);have hv:e.gen (Jp L) (Kg C) (ck,cs)=Yv [(4,Kg C (ck,cs))] q1 q0:=Vx;have eS:=lW.out;rw [hv,Ex.choice_len] at eS;have HV:=Nf hv;have t1:(e.kind == 1)=false:=Ud;have t2:(e.kind == 2)=false:=Ud;have t3:(e.kind == 3)=false:=Ud;have t4:(e.kind == 4)=false:=Ud;have t5:(e.kind == 5)=false:=Ud;have t6:(e.kind == 6)=false:=Ud;have t7:(e.kind == 7)=true:=Ud;have t10:(e.kind == 10)=false:=Ud;obtain⟨A0,a0,rfl,kP⟩:=cJ.out.at (j:=0) rfl rfl;obtain⟨A1,a1,rfl,pD⟩:=cJ.out.at (j:=1) rfl rfl;obtain⟨g,gc,rfl,wO,ka,eN,aG,il⟩:=Kc cJ.out.own Ul;have l0:=il 0 _ rfl;have l1:=il 1 _ rfl;unfold maxLen at aG;have uh:=fun W=>Xo 4 (Kg C (ck,cs)) (gM (ck,cs)) W;have hfg:=fun W (hb:Below W1.heap.size W1 W)=>fj W (Jn aC hb aC.size);have sy:=Nf kP;have qT:=Nf pD
    have hS:∀w',Below W1.heap.size W1 w'->w'.cell? ⟨w.heap.size,0,none⟩=some (.slice Av L.length cv)/\w'.cell? ⟨w.heap.size,1,none⟩=some (.slice Ac C.length cc)/\w'.cell? ⟨w.heap.size+1+1,0,none⟩=some (.int .i64 ck)/\w'.cell? ⟨w.heap.size+1+1,1,none⟩=some (.string cs)/\w'.cell? ⟨g,0,none⟩=some (.slice A0 q0.length a0)/\w'.cell? ⟨g,1,none⟩=some (.slice A1 q1.length a1):=fun w' hb=>
     ⟨Ja hb m0,Ja hb m1,Ja hb c0,Ja hb c1,Ja hb l0,Ja hb l1⟩
    have HS:=Nf hS;have ar:=hS W1.drew (Jh (Nt));have HFG:=Nf hfg;generalize Kg C (ck,cs)=fg at *;clear hv hk il lo jG lW ea fj dV kP pD hS hfg
    go_wp2_with fail
    refine Kd (fun w'=>w'.cell? ⟨w.heap.size,0,none⟩=some (.slice Av L.length cv)/\w'.cell? ⟨w.heap.size,1,none⟩=some (.slice Ac C.length cc)/\w'.cell? ⟨w.heap.size+1+1,0,none⟩=some (.int .i64 ck)/\w'.cell? ⟨w.heap.size+1+1,1,none⟩=some (.string cs)/\w'.cell? ⟨g,0,none⟩=some (.slice A0 q0.length a0)/\w'.cell? ⟨g,1,none⟩=some (.slice A1 q1.length a1)) 12 1 Ug Gd ?_;simp only [List.size_toArray,Nl,Nm,Nat.zero_add,Nat.reduceAdd];refine Ji 0 ar ?_;refine Ji 1 ar ?_;refine Ji 5 ar ?_;refine Ji 6 ar ?_;refine Ji 7 ar ?_;refine Ji 8 ar ?_;refine Ji 9 ar ?_;refine Ji 10 ar ?_;refine Kb 2 ?_;refine Jj fun K hK=>?_;go_simp;refine(HFG.out W1.drew (Jh (Nt))).mono ?_;rintro r w2 ⟨rfl,aq⟩;dsimp only;have cF:=Nd W1 w2 (Jd (Jh (Nt)) aq);refine hK _ _ ⟨HS.out _ cF,?_⟩;clear hK K
    try simp only [Act.put,sa1,sa2,sa3]
    refine Kb 3 ?_;refine Jj fun K hK=>?_;go_simp;refine(uh w2).mono ?_;rintro r w3 ⟨rfl,aM⟩;dsimp only;have cZ:=Nd W1 w3 (Jd cF aM);refine hK _ _ ⟨HS.out _ cZ,?_⟩;clear hK K
    try simp only [Act.put,sa1,sa2,sa3]
    refine Kb 4 ?_;refine Jj fun K hK=>?_;go_simp;refine hK _ _ ⟨HS.out _ (Jc cZ _),?_⟩;clear hK K
    try simp only [Act.put,sa1,sa2,sa3]
    have fe:=cZ.size;have fJ:=Jf4 W1.heap.size (.slice (some ⟨w3.heap.size,0,none⟩) 1 1) [(4,fg)] q1 q0 A1 a1 A0 a0 (w3.alloc (.cells #[.int .i64 4,.int .i32 fg] 59)) Uj (K8 (Jex w3 (4,fg) 59) fe) (Jfv (fun W hb=>qT.out.later hb) (Jc cZ _) (fun b hb=>by have he:w3.heap.size=b:=Option.some.inj hb;omega)) (Jfv (fun W hb=>sy.out.later hb) (Jc cZ _) (fun b hb=>by have he:w3.heap.size=b:=Option.some.inj hb;omega)) Uj;unfold Jcc at fJ;refine Kb 11 ?_;refine Jj fun K hK=>?_;go_simp;refine(fJ).mono ?_;rintro r w5 ⟨v5,rfl,hR⟩;dsimp only;have yy:=Nd W1 w5 (J2 (Jc cZ _) hR.grow (fun b hb=>by have he:w3.heap.size=b:=Option.some.inj hb;omega) Uj);refine hK _ _ ⟨HS.out _ yy,?_⟩;clear hK K
    try simp only [Act.put,sa1,sa2,sa3]
    refine Kh Ug ?_;refine Qx 12 ?_;exact Ubg
   ·exact Bv
   ·exact Bv
   ·obtain⟨u0,u1,rfl⟩:=Jew (lX.trans hl);obtain⟨q0,q1,rfl⟩:=Jew (jW.out.trans hl);have hv:e.gen (Jp L) (Kg C) (ck,cs)=Yv [(2,Jp L e.name)] q0 q1:=Vx;have eS:=lW.out;rw [hv,Ex.choice_len] at eS;have HV:=Nf hv;have t1:(e.kind == 1)=false:=Ud;have t2:(e.kind == 2)=false:=Ud;have t3:(e.kind == 3)=false:=Ud;have t4:(e.kind == 4)=false:=Ud;have t5:(e.kind == 5)=false:=Ud;have t6:(e.kind == 6)=false:=Ud;have t7:(e.kind == 7)=false:=Ud;have t10:(e.kind == 10)=true:=Ud;obtain⟨A0,a0,rfl,kP⟩:=cJ.out.at (j:=0) rfl rfl;obtain⟨A1,a1,rfl,pD⟩:=cJ.out.at (j:=1) rfl rfl;obtain⟨g,gc,rfl,wO,ka,eN,aG,il⟩:=Kc cJ.out.own Ul;have l0:=il 0 _ rfl;have l1:=il 1 _ rfl;unfold maxLen at aG;have pC:=fun W=>Xo 2 (Jp L e.name) (uf e.name) W;have dF:=fun W (hb:Below W1.heap.size W1 W)=>ea e.name W (Jn aC hb aC.size);have sy:=Nf kP;have qT:=Nf pD
    have hS:∀w',Below W1.heap.size W1 w'->w'.cell? ⟨w.heap.size,0,none⟩=some (.slice Av L.length cv)/\w'.cell? ⟨w.heap.size,1,none⟩=some (.slice Ac C.length cc)/\w'.cell? ⟨w.heap.size+1,2,none⟩=some (.string e.name)/\w'.cell? ⟨g,0,none⟩=some (.slice A0 q0.length a0)/\w'.cell? ⟨g,1,none⟩=some (.slice A1 q1.length a1):=fun w' hb=>
     ⟨Ja hb m0,Ja hb m1,Ja hb p2,Ja hb l0,Ja hb l1⟩
    have HS:=Nf hS;have ar:=hS W1.drew (Jh (Nt));have sI:=Nf dF;generalize Jp L e.name=fn at *;clear hv hk il lo jG lW ea fj dV kP pD hS dF
    go_wp2_with fail
    refine Kd (fun w'=>w'.cell? ⟨w.heap.size,0,none⟩=some (.slice Av L.length cv)/\w'.cell? ⟨w.heap.size,1,none⟩=some (.slice Ac C.length cc)/\w'.cell? ⟨w.heap.size+1,2,none⟩=some (.string e.name)/\w'.cell? ⟨g,0,none⟩=some (.slice A0 q0.length a0)/\w'.cell? ⟨g,1,none⟩=some (.slice A1 q1.length a1)) 13 1 Ug Gd ?_;simp only [List.size_toArray,Nl,Nm,Nat.zero_add,Nat.reduceAdd];refine Ji 0 ar ?_;refine Ji 1 ar ?_;refine Ji 2 ar ?_;refine Ji 6 ar ?_;refine Ji 7 ar ?_;refine Ji 8 ar ?_;refine Ji 9 ar ?_;refine Ji 10 ar ?_;refine Ji 11 ar ?_;refine Kb 3 ?_;refine Jj fun K hK=>?_;go_simp;refine(sI.out W1.drew (Jh (Nt))).mono ?_;rintro r w2 ⟨rfl,aq⟩;dsimp only;have cF:=Nd W1 w2 (Jd (Jh (Nt)) aq);refine hK _ _ ⟨HS.out _ cF,?_⟩;clear hK K
    try simp only [Act.put,sa1,sa2,sa3]
    refine Kb 4 ?_;refine Jj fun K hK=>?_;go_simp;refine(pC w2).mono ?_;rintro r w3 ⟨rfl,aM⟩;dsimp only;have cZ:=Nd W1 w3 (Jd cF aM);refine hK _ _ ⟨HS.out _ cZ,?_⟩;clear hK K
    try simp only [Act.put,sa1,sa2,sa3]
    refine Kb 5 ?_;refine Jj fun K hK=>?_;go_simp;refine hK _ _ ⟨HS.out _ (Jc cZ _),?_⟩;clear hK K
    try simp only [Act.put,sa1,sa2,sa3]
    have fe:=cZ.size;have fJ:=Jf4 W1.heap.size (.slice (some ⟨w3.heap.size,0,none⟩) 1 1) [(2,fn)] q0 q1 A0 a0 A1 a1 (w3.alloc (.cells #[.int .i64 2,.int .i32 fn] 59)) Uj (K8 (Jex w3 (2,fn) 59) fe) (Jfv (fun W hb=>sy.out.later hb) (Jc cZ _) (fun b hb=>by have he:w3.heap.size=b:=Option.some.inj hb;omega)) (Jfv (fun W hb=>qT.out.later hb) (Jc cZ _) (fun b hb=>by have he:w3.heap.size=b:=Option.some.inj hb;omega)) Uj;unfold Jcc at fJ;refine Kb 12 ?_;refine Jj fun K hK=>?_;go_simp;refine(fJ).mono ?_;rintro r w5 ⟨v5,rfl,hR⟩;dsimp only;have yy:=Nd W1 w5 (J2 (Jc cZ _) hR.grow (fun b hb=>by have he:w3.heap.size=b:=Option.some.inj hb;omega) Uj);refine hK _ _ ⟨HS.out _ yy,?_⟩;clear hK K
    try simp only [Act.put,sa1,sa2,sa3]
    refine Kh Ug ?_;refine Qx 13 ?_;exact Ubg
end Go.Proofs.YtknfcamdfdfoeaaGreatDoor
namespace Go.Proofs.YtknfcamdfdfoeaaGreatDoor
open Go.RowKit
section
variable (sl:ByteArray->Int) (fl:Int×ByteArray->Int)
def Xx:Nat->List Ce->List (Int×Int)
 | _,[]=>[]
 | k,c :: r=>(if c.name.toList.isEmpty=true then [] else [(4,(k:Int)),(3,sl c.name)]) ++ Xx (k+1) r
theorem Jjb:∀(l:List Ce) (k:Nat),(∀c∈l,c.name.toList.isEmpty=true)->Xx sl k l = []
 | [],_,_=>rfl
 | c :: r,k,h=>by rw [Xx,if_pos (h c Ul),Jjb r (k+1) fun x hx=>h x Fz];rfl
theorem Jng (L:List Va):∀(l:List Qe) (f:List Ce) (k:Nat),(∀q∈l,q.name.toList.isEmpty=false)->(∀c∈f,c.name.toList.isEmpty=true)->Xx sl k (l.map (Xm L) ++ f)=Zx sl k l
 | [],f,k,_,h=>Jjb sl f k h
 | q :: r,f,k,hn,h=>by
  rw [List.map_cons,List.cons_append,Xx,Zx,Jng L r f (k+1) (fun x hx=>hn x Fz) h];rw [show(Xm L q).name=q.name from rfl,if_neg (by rw [hn q Ul];decide)]
def Zm (c:Ce) (x:List (Int×Int)) (eqs:List Qe):List (Int×Int):=
 eqs.foldl (fun x q=>if c.name.toList.isEmpty=false/\(q.name.toList == c.name.toList)=true then q.e.gen sl fl (c.ck,c.cn) else x) x
def Xw (eqs:List Qe):Nat->List Ce->List (Int×Int)
 | _,[]=>[]
 | k,c :: r=>Qk sl (c.ck,c.cn) (Zm sl fl c [(1,1)] eqs ++ [(5,(k:Int))]) ++ Xw eqs (k+1) r
theorem Jgz (c:Ce):∀(eqs:List Qe) (x:List (Int×Int)),(c.name.toList.isEmpty=true\/∀q∈eqs,q.name≠c.name)->Zm sl fl c x eqs=x
 | [],x,_=>rfl
 | q :: r,x,h=>by
  unfold Zm;rw [List.foldl_cons,if_neg]
  ·exact Jgz c r x (h.imp id fun h y hy=>h y F0)
  ·rintro⟨h1,h2⟩
   rcases h with h|h
   ·rw [h] at h1;cases h1
   ·exact h q Ul (Jej Lg)
theorem Jno (L:List Va) (q:Qe) (hn:q.name.toList.isEmpty=false):∀(eqs:List Qe) (x:List (Int×Int)),eqs.Pairwise (fun a b=>a.name≠b.name)->q∈eqs->Zm sl fl (Xm L q) x eqs=q.e.gen sl fl (J9 L q.name)
 | [],x,_,h=>by cases h
 | a :: r,x,hp,h=>by
  rw [List.pairwise_cons] at hp;unfold Zm;rw [List.foldl_cons]
  rcases List.mem_cons.1 h with rfl|h
  ·rw [if_pos ⟨hn,by show(q.name.toList == q.name.toList)=true;simp⟩];exact Jgz sl fl (Xm L q) r _ (.inr fun y hy=>fun e=>hp.1 y hy e.symm)
  ·rw [if_neg]
   ·exact Jno L q hn r x hp.2 h
   ·rintro⟨_,h2⟩;exact hp.1 q h (Jej (show a.name.toList=q.name.toList by simpa [Xm] using h2))
theorem Jjx (eqs:List Qe):∀(l:List Ce) (k:Nat),(∀c∈l,c.name.toList.isEmpty=true)->Xw sl fl eqs k l=Ze sl k l
 | [],_,_=>rfl
 | c :: r,k,h=>by
  rw [Xw,Ze,Jjx eqs r (k+1) (fun x hx=>h x Fz),Jgz sl fl c eqs _ (.inl (h c Ul))];exact Gd
theorem Jm8 (L:List Va) (eqs:List Qe) (hp:eqs.Pairwise fun a b=>a.name≠b.name):∀(l:List Qe) (f:List Ce) (k:Nat),(∀q∈l,q∈eqs/\q.name.toList.isEmpty=false)->(∀c∈f,c.name.toList.isEmpty=true)->
  Xw sl fl eqs k (l.map (Xm L) ++ f)=Zu sl fl L k l ++ Ze sl (k+l.length) f
 | [],f,k,_,h=>by
  rw [List.map_nil,List.nil_append,Jjx sl fl eqs f k h,Zu,List.nil_append];exact Gd
 | q :: r,f,k,hn,h=>by
  obtain⟨h1,h2⟩:=hn q Ul;rw [List.map_cons,List.cons_append,Xw,Zu,Jm8 L eqs hp r f (k+1) (fun x hx=>hn x Fz) h,Jno sl fl L q h2 eqs _ hp h1,Nl,show k+1+r.length=k+(r.length+1) by omega,List.append_assoc];exact Gd
end
theorem Jjn (m l:List (Int×ByteArray)):∀c∈Kaq m l,c.name.toList.isEmpty=true:=fun c hc=>by
 unfold Kaq at hc;obtain⟨d,_,rfl⟩:=List.mem_map.1 hc;show(⟨#[]⟩:ByteArray).toList.isEmpty=true
 first|decide|simp
def Jr9 (p:Pr):List (Int×Int):=
 Yh (Xu (Je p)) 0 p.ins ++ Xx (Xu (Je p)) 0 (Jq p) ++ Xd (Xu (Je p)) (Kg (Jq p)) (Je p) p.eqs (J1 p).1 ++ Xw (Xu (Je p)) (Kg (Jq p)) p.eqs 0 (Jq p) ++ Xl (Xu (Je p)) 0 p.outs
theorem Jwo {p:Pr} (h:Jay p):Jr9 p=Xs p:=by
 have hp:=(Jbe h.chk).1;have hd:∀q∈J0 p.eqs,q∈p.eqs/\q.name.toList.isEmpty=false:=fun q hq=>⟨(Z4 hq).1,(h.eqs q (Z4 hq).1).ne⟩;have hf:=Jjn (Jad (Je p) p.eqs) (X3 (Je p));have hc:Jq p=(J0 p.eqs).map (Xm (Je p)) ++ Kaq (Jad (Je p) p.eqs) (X3 (Je p)):=rfl;have h1:=Jng (Xu (Je p)) (Je p) (J0 p.eqs) _ 0 (fun q hq=>(hd q hq).2) hf;have h2:=Jm8 (Xu (Je p)) (Kg (Jq p)) (Je p) p.eqs hp (J0 p.eqs) _ 0 hd hf;rw [<-hc] at h1 h2
 have h3:(Jq p).drop (J0 p.eqs).length=Kaq (Jad (Je p) p.eqs) (X3 (Je p)):=by
  rw [hc,List.drop_left' Ul]
 unfold Jr9 Xs;rw [h1,h2,h3,Nat.zero_add,List.append_assoc,List.append_assoc,List.append_assoc,List.append_assoc];simp [List.append_assoc]
end Go.Proofs.YtknfcamdfdfoeaaGreatDoor
