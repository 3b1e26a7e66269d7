/- Lemmas. -/
import Derived.Test.YtdgjplldlfeolaaGreatDoorMac
import Derived.Test.YtdgjplldlfeolaaGreatDoorY20
import Derived.Test.YtdgjplldlfeolaaGreatDoorY17
import Derived.Test.YtdgjplldlfeolaaGreatDoorY10
import Derived.Test.YtdgjplldlfeolaaGreatDoorY00
set_option linter.unusedVariables false
set_option linter.unusedSimpArgs false
set_option maxRecDepth 100000
set_option maxHeartbeats 64000000
namespace Go.Proofs.YtdgjplldlfeolaaGreatDoor
open Go.RowKit Go.Sort
theorem J6.thenB {S:Nat->Prop} {W W1 W2:World} (h:J6 S W W1) (hb:Below W1.heap.size W1 W2):J6 S W W2:=h.trans' (J6.bel hb)
abbrev Ls:=List ((Option Addr×Nat)×(Option Addr×Nat))
structure Kf6 (B g:Nat) (ts:List Tk) (A:Option Addr) (cap:Nat) (WL w:World) (nm:ByteArray) (i1 i2 i3:Value) (l:List Qe) (ls:Ls) (Al:Option Addr) (cl:Nat) (st:St):Prop where
 ps:X2 B ts A cap w st
 kept:J6 (fun k=>k=B\/k=g) WL w
 own:w.ownsRow WL.heap.size 75 10 (.slice Al l.length cl) l.length (Jed l ls)
 ll:ls.length=l.length
 subs:Jc4 WL.heap.size (.slice Al l.length cl) w l ls
 c0:w.cell? ⟨g,0,none⟩=some (.string nm)
 c1:w.cell? ⟨g,1,none⟩=some i1
 c2:w.cell? ⟨g,2,none⟩=some i2
 c3:w.cell? ⟨g,3,none⟩=some i3
 c4:w.cell? ⟨g,4,none⟩=some (.slice Al l.length cl)
 fg:∀o,w.frozen? ⟨g,o,none⟩=false
 Bg:B<g
 gL:g<WL.heap.size
section
variable {B g:Nat} {ts:List Tk} {A:Option Addr} {cap:Nat} {WL w w':World} {nm:ByteArray} {i1 i2 i3:Value} {l:List Qe} {ls:Ls} {Al:Option Addr} {cl:Nat} {st st':St}
theorem Kf6.lt (h:Kf6 B g ts A cap WL w nm i1 i2 i3 l ls Al cl st):g<w.heap.size:=Nr h.gL h.kept.size
theorem Kf6.on (h:Kf6 B g ts A cap WL w nm i1 i2 i3 l ls Al cl st) (hk:J6 (fun b=>b=B) w w') (hp:X2 B ts A cap w' st'):Kf6 B g ts A cap WL w' nm i1 i2 i3 l ls Al cl st':=by
 have vb:=h.Bg;have hgL:=h.gL;have hg:=h.lt;have ng:g≠B:=Ua;exact⟨hp,h.kept.trans' (hk.weak fun k hk=> .inl hk),Khg h.own Ua hk,h.ll,fun j q a hq ha=>(h.subs j q a hq ha).grow (fun k h1 h2 _=>hk.block k h2 (by show ¬k=B;omega)) hk.size (.inl rfl),(K1 hk _ _ ng hg).trans h.c0,(K1 hk _ _ ng hg).trans h.c1,(K1 hk _ _ ng hg).trans h.c2,(K1 hk _ _ ng hg).trans h.c3,(K1 hk _ _ ng hg).trans h.c4,fun o=>(kfz hk _ _ ng hg).trans (h.fg o),vb,hgL⟩
theorem Kf6.mid (h:Kf6 B g ts A cap WL w nm i1 i2 i3 l ls Al cl st) (hg:w.grownBy w' (Value.slice Al l.length cl).ownBlock):w'.cell? ⟨g,4,none⟩=some (.slice Al l.length cl)/\w'.frozen? ⟨g,4,none⟩=false:=by
 have hgL:=h.gL;have hb:w'.heap[g]?=w.heap[g]?:=hg.block g h.lt fun he=>Md;exact⟨Jr hb h.c4,(World.frozen?_of_block hb).trans (h.fg 4)⟩
theorem Jc4.longer {v:Value} {q:Qe} {base:Nat} (h:Jc4 base v w l ls) (hl:ls.length=l.length):Jc4 base v w (l ++ [q]) ls:=fun j x a hx ha=>by
 have hj:j<l.length:=by have:=(Nh ha).1;omega
 rw [List.getElem?_append_left hj] at hx;exact h j x a hx ha
theorem Kf6.app {A6:Option Addr} {c6 m:Nat} {q:Qe} {a:(Option Addr×Nat)×(Option Addr×Nat)} (h:Kf6 B g ts A cap WL w nm i1 i2 i3 l ls Al cl st) (hm:WL.heap.size<=m)
  (hq:Off m none w (fun V=>Jt V q.first a.1.1 a.1.2/\Jt V q.e a.2.1 a.2.2)) (xo:∀b,(Value.slice Al l.length cl).ownBlock=some b->b<m)
  (ho:w'.ownsRow WL.heap.size 75 10 (.slice A6 (l.length+1) c6) (l.length+1) (Jed l ls ++ eqC q a)) (hg:w.grownBy w' (Value.slice Al l.length cl).ownBlock)
  (hv:(Value.slice A6 (l.length+1) c6).ownBlock=(Value.slice Al l.length cl).ownBlock\/∀k,(Value.slice A6 (l.length+1) c6).ownBlock=some k->w.heap.size<=k) :
  Kf6 B g ts A cap WL (w'.setCell ⟨g,4,none⟩ (.slice A6 (l.length+1) c6)) nm i1 i2 i3 (l ++ [q]) (ls ++ [a]) A6 c6 st:=by
 have vb:=h.Bg;have hgL:=h.gL;have am:=h.lt;have hwL:=h.kept.size;have hb:∀b,b<WL.heap.size->w'.heap[b]?=w.heap[b]?:=fun b hb=>hg.block b (Nr hb hwL) fun he=>De;have ev:∀o v,w.cell? ⟨g,o,none⟩=some v->w'.cell? ⟨g,o,none⟩=some v:=fun o v hv=>Jr (hb g hgL) hv;have aS:∀o v,o≠4->w.cell? ⟨g,o,none⟩=some v->(w'.setCell ⟨g,4,none⟩ (.slice A6 (l.length+1) c6)).cell? ⟨g,o,none⟩=some v:=fun o v ho hv=>(J5 _ _ _ _ _ ho).trans (ev o v hv);have ai:(l ++ [q]).length=l.length+1:=Uh;have bW:∀b,WL.heap.size<=b->(w'.setCell ⟨g,4,none⟩ (.slice A6 (l.length+1) c6)).heap[b]?=w'.heap[b]?:=fun b hb=>heap_setCell_other _ _ _ _ (by show b≠g;omega);refine⟨(h.ps.app h.own Ua hg).beyond vb _ _,?_,?_,by simp [h.ll],?_,aS _ _ Ug h.c0,aS _ _ Ug h.c1,aS _ _ Ug h.c2,aS _ _ Ug h.c3,?_,fun o=>?_,vb,hgL⟩
 ·exact B8
 ·rw [ai,Jmw _ _ _ _ h.ll];exact Jbd ho (z:=g) Ua 4 (.slice A6 (l.length+1) c6)
 ·rw [ai];intro j x c hx hc
  rcases Nat.lt_or_ge j ls.length with hj|hj
  ·rw [List.getElem?_append_left hj] at hc;rw [List.getElem?_append_left (by have:=h.ll;omega)] at hx;refine(h.subs j x c hx hc).grow (fun b h1 h2 h3=>(bW b h1).trans (hg.block b h2 h3)) (by have:=hg.size;simpa using this) ?_
   rcases hv with hv|hv
   ·exact .inl hv
   ·exact .inr hv
  ·obtain rfl:j=ls.length:=by
    have:=(Nh hc).1;simp at this;omega
   rw [List.getElem?_append_right (Ns _)] at hc;simp at hc;subst hc;rw [h.ll,List.getElem?_append_right (Ns _)] at hx;simp at hx;subst hx;refine hq.fresh hm (fun b h1 h2=>(bW b Ua).trans (hg.block b h2 fun he=>?_)) (by have:=hg.size;simpa using this) fun k hk=>?_
   ·have:=xo b he.symm;exact Ua
   ·rcases hv with hv|hv
    ·rw [hv] at hk;exact .inl (xo k hk)
    ·exact .inr (hv k hk)
 ·rw [ai];exact Nx _ _ _ (ev _ _ h.c4)
 ·rw [World.frozen?_setCell,World.frozen?_of_block (hb g hgL)];exact h.fg o
end
def Khe (W:World) (x:Pr×Int×Int) (r:Ending) (W':World):Prop:=(∃a,r = .returned (.tuple #[prV x.1 a,.int .i64 x.2.1,.int .i64 x.2.2])/\Kr W' x.1 a)/\Below W.heap.size W W'
theorem Khw (W:World):Kr W prZ ⟨none,0,none,0,none,0,none,0⟩:=
 ⟨⟨Ns _,Np,fun h=>absurd h Gi⟩,⟨Ns _,Np,fun h=>absurd h Gi⟩,⟨Ns _,Np,fun h=>absurd h Gi⟩,⟨Ns _,Np,fun h=>absurd h Gi⟩⟩
theorem Kk5 (s:ByteArray) (W:World) (hs:s.size<=maxLen) (h0:(Kdk s).2.1≠0):Calls Tryz.prog 7 #[.string s] W (Khe W (prZ,(Kdk s).2.1,(Kdk s).2.2)):=by
 have pZ:=fun w=>Kjz s w hs;generalize Kdk s=S at pZ h0 ⊢;obtain⟨ts,e,at0⟩:=S;unfold Kll at pZ;dsimp only at pZ h0 ⊢;have he:(e != 0)=true:=Lv;clear h0
 go_enter Tryz.func7,Tryz.ntmps7
 go_wp2_with (go_at_call 16;go_loud (refine(pZ _).mono ?_;rintro r w1 ⟨⟨Al,cl,rfl,aP⟩,ac⟩;have ak:=Jg ac;have db:=Jf ac;have af:=ac.size;(try simp at af);have bV:=lt0 W w1))
 refine Nv (v:= .tuple #[prV prZ ⟨none,0,none,0,none,0,none,0⟩,.int .i64 e,.int .i64 at0]) Lg rfl ⟨⟨_,rfl,Khw _⟩,?_⟩;exact Jdj _ _ _ _ _ (Jd (Jc (Nt) _) ac) (Ns _)
theorem Kn5 {w1:World} {ts:List Tk} {Al:Option Addr} {cl:Nat} (t:TypeId) (h:Kg5 w1.heap.size w1 ts Al cl):X2 w1.heap.size ts Al cl (w1.alloc (.cells #[.slice Al ts.length cl,.int .i64 0,.bool false] t)) ⟨0,false⟩:=
 ⟨Gd,Gd,Gd,Uc,Uc,Uc,Kgw h _ (J6.bel (Jc (Nt) _)),Np⟩
theorem Knv (ts:List Tk):(Kew ts).1.eqs = []:=by unfold Kew;dsimp only;split <;> rfl
theorem Kk9 (s:ByteArray) (W:World) (hs:s.size<=maxLen) {ts:List Tk} {at0:Int} (hS:Kdk s=(ts,0,at0)) (ai:ts.length<=100000) {p0:Pr} {stH:St} (hH:Kew ts=(p0,stH)) (pp:p0.eqs = []) :
  Calls Tryz.prog 7 #[.string s] W (Khe W (if (Kd8 ts s.size (ts.length+1) [] stH).2.1≠0 then(prZ,(Kd8 ts s.size (ts.length+1) [] stH).2.1,(Kd8 ts s.size (ts.length+1) [] stH).2.2.1)
   else if (Kd8 ts s.size (ts.length+1) [] stH).2.2.2.bad=true\/(Kd8 ts s.size (ts.length+1) [] stH).2.2.2.pos<ts.length then(prZ,16,Ke6 ts (Kd8 ts s.size (ts.length+1) [] stH).2.2.2.pos s.size) else({p0 with eqs:=(Kd8 ts s.size (ts.length+1) [] stH).1},0,0))):=by
 have pZ:=fun w=>Kjz s w hs;rw [hS] at pZ;clear hS;unfold Kll at pZ;dsimp only at pZ;unfold maxLen at hs;obtain⟨nm,ins,outs,locs,eqs0⟩:=p0;obtain rfl:eqs0 = []:=pp;obtain⟨R,hR⟩:∃R,R=Kd8 ts s.size (ts.length+1) [] stH:=⟨_,rfl⟩;rw [<-hR];have vi:=Nf hR;clear hR;obtain⟨X,hX⟩:∃X:Pr×Int×Int,X=if R.2.1≠0 then(prZ,R.2.1,R.2.2.1) else if R.2.2.2.bad=true\/R.2.2.2.pos<ts.length then(prZ,16,Ke6 ts R.2.2.2.pos s.size) else({(⟨nm,ins,outs,locs,[]⟩:Pr) with eqs:=R.1},0,0):=⟨_,rfl⟩;rw [<-hX];have HX:=Nf hX;clear hX;have hhd:=fun {B:Nat} {A:Option Addr} {cap:Nat} {w:World} (h:X2 B ts A cap w ⟨0,false⟩)=>Kne h ai;rw [hH] at hhd;unfold Kjo at hhd;dsimp only at hhd;clear hH
 go_enter Tryz.func7,Tryz.ntmps7
 go_wp2_with (first
  | (go_at_call 16;go_loud (refine(pZ _).mono ?_;rintro r w1 ⟨⟨Al,cl,rfl,aP⟩,ac⟩;have ak:=Jg ac;have db:=Jf ac;have af:=ac.size;(try simp at af);have bV:=lt0 W w1))
  | (go_at_call 17;go_loud (refine(hhd (Kn5 _ aP)).mono ?_;rintro r w2 ⟨⟨A1,c1,A2,c2,A3,c3,rfl,jf⟩,gL,dz⟩;have dm:=K1 dz;have gO:=kfz dz;have br:=dz.size;(try simp at br);have gq:=lt0 W w2;have cF:=lt0 w1 w2;have aS:W.heap.size≠w1.heap.size:=Ua;have z0:=Nb w2 W.heap.size 0 (.string ⟨#[]⟩) ((dm _ _ Ua Ud).trans Uc);have z1:=Nb w2 W.heap.size 1 (.slice none 0 0) ((dm _ _ Ua Ud).trans Uc);have z2:=Nb w2 W.heap.size 2 (.slice none 0 0) ((dm _ _ Ua Ud).trans Uc);have z3:=Nb w2 W.heap.size 3 (.slice none 0 0) ((dm _ _ Ua Ud).trans Uc);have z4:=Nb w2 W.heap.size 4 (.slice none 0 0) ((dm _ _ Ua Ud).trans Uc);have zf:∀o,w2.frozen? ⟨W.heap.size,o,none⟩=false:=fun o=>(gO _ _ Ua Ud).trans Uc)))
 have iY:=Nd W w2 (J6.below (Jc (Jd (Jc (Nt) _) ac) _) dz fun k hk=>(by show ¬k=w1.heap.size;omega));refine Jo fun WL hWL=>?_;have hzL:WL.heap.size=w2.heap.size+1:=by rw [hWL];simp
 have hbL:=Nd w2 WL (by rw [hWL];exact Jc (Nt) _)
 have hpa:Kf6 w1.heap.size w2.heap.size ts Al cl WL WL nm (.slice A1 ins.length c1) (.slice A2 outs.length c2) (.slice A3 locs.length c3) [] [] none 0 stH:=by
  refine⟨gL.later hbL,J6.refl _,Nw,rfl,fun j q a hq _=>absurd hq Uh,?_,?_,?_,?_,?_,fun o=>?_,cF,Ua⟩ <;> rw [hWL] <;> go_simp
 clear hWL;have y0:=Ja hbL z0;have y1:=Ja hbL z1;have y2:=Ja hbL z2;have y3:=Ja hbL z3;have y4:=Ja hbL z4;have yf:∀o,WL.frozen? ⟨W.heap.size,o,none⟩=false:=fun o=>(Jf hbL _ _ gq).trans (zf o);have dZ:=Nd W WL (Jd iY hbL);have hyL:=lt0 W WL;have kx:¬(W.heap.size=w1.heap.size\/W.heap.size=w2.heap.size):=Ua;clear z0 z1 z2 z3 z4 zf ak db dm gO pZ hhd iY
 go_loopg [] (ts.length+1) (fun k wr=>∃l st' ls A6 c6,ts.length-st'.pos<k/\l.length+(ts.length-st'.pos)<=ts.length/\Kd8 ts s.size k l st'=R/\Kf6 w1.heap.size w2.heap.size ts Al cl WL wr nm (.slice A1 ins.length c1) (.slice A2 outs.length c2) (.slice A3 locs.length c3) l ls A6 c6 st')
 case atStart=>exact⟨[],stH,[],none,0,Ua,Uh,vi.out.symm,hpa⟩
 case round=>
  obtain⟨l,st',ls,A6,c6,hm,cY,aa,aY⟩:=hrel;clear hpa;obtain⟨k,rfl⟩:∃k,gk=k+1:=⟨gk-1,Ua⟩;rw [Kd8] at aa;have wu:=aY.ps;have hle':=wu.le;have b2:=wu.c2;have hBw:=wu.lt
  cases hb:st'.bad
  ·rw [hb,if_neg Uh] at aa;rw [hb] at b2
   cases ht:Kc5 ts st' ⟨#[116,101,108]⟩
   ·rw [ht,if_neg Uh] at aa;have hwh0:=Kfy wu (s.size:Int);have dn:=fun w' (h:X2 w1.heap.size ts Al cl w' st')=>Koh h ai;have hmv:=Kiz ts st';generalize Kdt ts st'=Q at dn hmv aa;obtain⟨q,stQ⟩:=Q;obtain⟨hmv1,hmv2⟩:=hmv;have hmv3:=hmv2.2 hle';unfold EqP qeV at dn;dsimp only at dn hmv1 hmv3 aa
    cases aq:stQ.bad
    ·rw [aq,if_neg Uh] at aa
     have hmv4:st'.pos<stQ.pos:=by
      rcases hmv1 with h|h
      ·rw [aq] at h;simp at h
      ·exact h
     have aB:=fun A c w h=>Jnc q.e A c w h;unfold exV at aB
     by_cases hr:q.e.right=0
     ·rw [if_neg Fp] at aa;have hri:(q.e.right != 0)=false:=Fp;have HR:=Nf aa;clear aa hr;have hWr:=aY.kept.size
      go_wp2_with (first
       | (go_at_call 18;go_loud (refine(Kdf wu ht ai).mono ?_;rintro r w3 ⟨rfl,ip,dU⟩))
       | (go_at_call_of 19 (Value.pointer (some ⟨w1.heap.size,0,none⟩));go_loud (refine(Kfy ip (s.size:Int)).mono ?_;rintro r w4 ⟨rfl,ei⟩))
       | (go_at_call 20;go_loud (refine(dn _ (ip.later ei)).mono ?_;rintro r w5 ⟨⟨E1,n1,E2,n2,rfl,hoq⟩,dv,bb⟩;have py:=dU.trans' ((J6.bel (S:=fun b=>b=w1.heap.size) ei).trans' bb);have yx:=py.size;have b5:=dv.c2;rw [aq] at b5;have yy:=dv.lt))
       | (go_at_call 21;go_loud (refine(aB _ _ _ (hoq.here.2.later (Jc (Nt) _))).mono ?_;rintro r w6 ⟨rfl,yM⟩;have hz6:=yM.size;(try simp at hz6);have hc6:=Jg yM;have hatX:=((aY.on py dv).on ((((J6.refl w5).alloc _).thenB yM).alloc (.cells #[.string q.name,.int .i64 q.delay,.int .i64 q.first.kind,.int .i32 q.first.n,.string q.first.name,.slice E1 q.first.sub.length n1,.int .i64 q.e.kind,.int .i32 q.e.n,.string q.e.name,.slice E2 q.e.sub.length n2] 75)) (((dv.alloc _).later yM).alloc _));have u4:=((aY.on py dv).on (((J6.refl w5).alloc _).thenB yM) ((dv.alloc _).later yM)).c4;have u5:=(aY.on py dv).c4;have hw45:wr.heap.size<=w4.heap.size:=Nat.le_trans dU.size ei.size;have hgX:=hatX.lt;have hgY:=(aY.on py dv).lt;have hWX:=(aY.on py dv).kept.size))
       | (at_builtin;go_loud (refine Z2 rfl (.tmp 65) (.tmp 67) 36 rfl WL.heap.size 75 _ 10 136 Tryz.underlying36 Jzq rfl Ua (.slice A6 l.length c6) l.length (Jed l ls) w6.heap.size 1 1 (eqC q ((E1,n1),(E2,n2))) rfl hatX.own rfl rfl (fun j u hj=>by rw [Kw];simpa [eqC] using hj) (by simp [eqC,Value.oneCell']) Ua Ua Ud ?_;intro v7 w7 my hg7 hv7;obtain⟨A7,n7,rfl,-,-⟩:=Jv my;obtain⟨m4,mf⟩:=hatX.mid hg7)))
      have hat7:=hatX.app (m:=wr.heap.size) hWr (Off.later (Off.later (Off.later (hoq.less hw45) (Jc (Nt) _)) yM) (Jc (Nt) _)) (fun b hb=>(aY.own.lt b hb).2) my hg7 hv7
      go_roundg k
      case measure=>omega
      case rel=>exact⟨l ++ [q],stQ,ls ++ [((E1,n1),(E2,n2))],A7,n7,Ua,Ui,HR.out,hat7⟩
     ·rw [if_pos hr] at aa;have hri:(q.e.right != 0)=true:=Fp;have hx:=HX.out;rw [<-aa] at hx;dsimp only at hx;rw [if_pos hr] at hx;have HX2:=Nf hx;clear hx HX aa hr
      go_wp2_with (first
       | (go_at_call 18;go_loud (refine(Kdf wu ht ai).mono ?_;rintro r w3 ⟨rfl,ip,dU⟩))
       | (go_at_call_of 19 (Value.pointer (some ⟨w1.heap.size,0,none⟩));go_loud (refine(Kfy ip (s.size:Int)).mono ?_;rintro r w4 ⟨rfl,ei⟩))
       | (go_at_call 20;go_loud (refine(dn _ (ip.later ei)).mono ?_;rintro r w5 ⟨⟨E1,n1,E2,n2,rfl,hoq⟩,dv,bb⟩;have py:=dU.trans' ((J6.bel (S:=fun b=>b=w1.heap.size) ei).trans' bb);have yx:=py.size;have b5:=dv.c2;rw [aq] at b5;have yy:=dv.lt))
       | (go_at_call 21;go_loud (refine(aB _ _ _ (hoq.here.2.later (Jc (Nt) _))).mono ?_;rintro r w8 ⟨rfl,hb8⟩;have fR:=((aY.on py dv).on (((J6.refl w5).alloc _).thenB hb8) ((dv.alloc _).later hb8)).kept;have x0:=fR.cell kx y0;have x1:=fR.cell kx y1;have x2:=fR.cell kx y2;have x3:=fR.cell kx y3;have x4:=fR.cell kx y4;have xf:∀o,w8.frozen? ⟨W.heap.size,o,none⟩=false:=fun o=>(World.frozen?_of_block (fR.block _ hyL kx)).trans (yf o))))
      refine Nv (v:= .tuple #[prV prZ ⟨none,0,none,0,none,0,none,0⟩,.int .i64 q.e.right,.int .i64 (Ke6 ts st'.pos s.size)]) Lg rfl ?_;exact Ubp
    ·rw [aq,if_pos rfl] at aa;have hx:=HX.out;rw [<-aa] at hx;simp only [ne_eq,not_true_eq_false,if_false,aq,true_or,if_true] at hx;have HX2:=Nf hx;clear hx HX aa;have jn:=fun w' (h:X2 w1.heap.size ts Al cl w' stQ)=>Kfy h (s.size:Int);have hpq:X2 w1.heap.size ts Al cl wr st':=wu;clear hwh0
     go_wp2_with (first
      | (go_at_call 18;go_loud (refine(Kdf wu ht ai).mono ?_;rintro r w3 ⟨rfl,ip,dU⟩))
      | (go_at_call 20;go_loud (refine(dn _ (ip.later ei)).mono ?_;rintro r w5 ⟨⟨E1,n1,E2,n2,rfl,hoq⟩,dv,bb⟩;have py:=dU.trans' ((J6.bel (S:=fun b=>b=w1.heap.size) ei).trans' bb);have yx:=py.size;have b5:=dv.c2;rw [aq] at b5;have yy:=dv.lt;have hat5:=aY.on py dv))
      | (go_at_call 19;go_loud (refine(jn _ (dv.alloc _)).mono ?_;rintro r w8 ⟨rfl,hb8⟩;have fR:=(hat5.on (((J6.refl w5).alloc _).thenB hb8) ((dv.alloc _).later hb8)).kept;have x0:=fR.cell kx y0;have x1:=fR.cell kx y1;have x2:=fR.cell kx y2;have x3:=fR.cell kx y3;have x4:=fR.cell kx y4;have xf:∀o,w8.frozen? ⟨W.heap.size,o,none⟩=false:=fun o=>(World.frozen?_of_block (fR.block _ hyL kx)).trans (yf o)))
      | (go_at_call 19;go_loud (refine(Kfy ip (s.size:Int)).mono ?_;rintro r w4 ⟨rfl,ei⟩)))
     refine Nv (v:= .tuple #[prV prZ ⟨none,0,none,0,none,0,none,0⟩,.int .i64 16,.int .i64 (Ke6 ts stQ.pos s.size)]) Lg rfl ?_;exact Ubp
   ·rw [ht,if_pos rfl,Kdu ht] at aa;have am:=(Ket ht).1;have hx:=HX.out;rw [<-aa] at hx;simp only [ne_eq,not_true_eq_false,if_false,hb,Bool.false_eq_true,false_or] at hx
    by_cases hfull:st'.pos+1<ts.length
    ·rw [if_pos hfull] at hx;have d1:decide ((st'.pos:Int)+1<(ts.length:Int))=true:=Ui;have HX2:=Nf hx;clear hx HX aa;have jn:=fun w' (h:X2 w1.heap.size ts Al cl w' ⟨st'.pos+1,st'.bad⟩)=>Kfy h (s.size:Int)
     go_wp2_with (go_at_call 18;go_loud (refine(Kdr wu ht ai).mono ?_;rintro r w3 ⟨rfl,ip,dU⟩;have e1:=ip.c1;dsimp only at e1;rw [show((st'.pos+1:Nat):Int)=(st'.pos:Int)+1 from by omega] at e1;have e2:=ip.c2;rw [hb] at e2;have kR:=aY.on dU ip))
     go_wp2_with (go_at_call 19;go_loud (refine(jn _ ip).mono ?_;rintro r w8 ⟨rfl,hb8⟩;have fR:=(kR.on (J6.bel hb8) (ip.later hb8)).kept;have x0:=fR.cell kx y0;have x1:=fR.cell kx y1;have x2:=fR.cell kx y2;have x3:=fR.cell kx y3;have x4:=fR.cell kx y4;have xf:∀o,w8.frozen? ⟨W.heap.size,o,none⟩=false:=fun o=>(World.frozen?_of_block (fR.block _ hyL kx)).trans (yf o)))
     refine Nv (v:= .tuple #[prV prZ ⟨none,0,none,0,none,0,none,0⟩,.int .i64 16,.int .i64 (Ke6 ts (st'.pos+1) s.size)]) Lg rfl ?_;exact Ubp
    ·rw [if_neg hfull] at hx;have d1:decide ((st'.pos:Int)+1<(ts.length:Int))=false:=Ui;have HX2:=Nf hx;clear hx HX aa
     go_wp2_with (go_at_call 18;go_loud (refine(Kdr wu ht ai).mono ?_;rintro r w3 ⟨rfl,ip,dU⟩;have e1:=ip.c1;dsimp only at e1;rw [show((st'.pos+1:Nat):Int)=(st'.pos:Int)+1 from by omega] at e1;have e2:=ip.c2;rw [hb] at e2;have kR:=aY.on dU ip;have fR:=kR.kept;have x0:=fR.cell kx y0;have x1:=fR.cell kx y1;have x2:=fR.cell kx y2;have x3:=fR.cell kx y3;have x4:=fR.cell kx y4;have xf:∀o,w3.frozen? ⟨W.heap.size,o,none⟩=false:=fun o=>(World.frozen?_of_block (fR.block _ hyL kx)).trans (yf o);have v0:=kR.c0;have v1:=kR.c1;have v2:=kR.c2;have v3:=kR.c3;have v4:=kR.c4;have cZ:=kR.lt;have hB3a:=ip.lt))
     refine Nv (v:= .tuple #[prV ⟨nm,ins,outs,locs,l⟩ ⟨A1,c1,A2,c2,A3,c3,A6,c6⟩,.int .i64 0,.int .i64 0]) (by simp [results,Tryz.results7,go_sem,prV, *]) rfl ?_;rw [HX2.out];have fe:=fR.size;have ul:=Nd W w3 (J6.below dZ fR fun k hk=>La);have bF:∀k,w1.heap.size+1<=k->k<w2.heap.size->w3.heap[k]?=w2.heap[k]?:=fun k h1 h2=>(fR.block k Ua La).trans (hbL.block k h2)
     have cP:∀(V:World),(∀k,WL.heap.size<=k->V.heap[k]?=w3.heap[k]?)->(∀k,w1.heap.size+1<=k->k<w2.heap.size->V.heap[k]?=w3.heap[k]?)->Kr V ⟨nm,ins,outs,locs,l⟩ ⟨A1,c1,A2,c2,A3,c3,A6,c6⟩:=fun V dq bz=>by
      obtain⟨p1,p2,p3⟩:=jf V fun k h1 h2 _=>(bz k Lk h2).trans (bF k Lk h2);obtain⟨A',c',he,hoe⟩:=Jap.of_own kR.own kR.ll kR.subs;injection he with e1 e2 e3;subst e1 e3;exact⟨p1,p2,p3,hoe V fun k h1 _ _=>dq k h1⟩
     refine⟨⟨_,rfl,cP _ (fun k h1=>?_) (fun k h1 h2=>?_)⟩,Jdj _ _ _ _ _ ul (Ns _)⟩
     ·exact Uag
     ·exact Uag
  ·rw [hb,if_pos rfl] at aa;rw [hb] at b2;have jn:=fun w' (h:X2 w1.heap.size ts Al cl w' st')=>Kfy h (s.size:Int);have hx:=HX.out;rw [<-aa] at hx;simp only [ne_eq,not_true_eq_false,if_false,hb,true_or,if_true] at hx;have HX2:=Nf hx;clear hx HX aa
   go_wp2_with (go_at_call 19;go_loud (refine(jn _ wu).mono ?_;rintro r w8 ⟨rfl,hb8⟩;have fR:=(aY.on (J6.bel hb8) (wu.later hb8)).kept;have x0:=fR.cell kx y0;have x1:=fR.cell kx y1;have x2:=fR.cell kx y2;have x3:=fR.cell kx y3;have x4:=fR.cell kx y4;have xf:∀o,w8.frozen? ⟨W.heap.size,o,none⟩=false:=fun o=>(World.frozen?_of_block (fR.block _ hyL kx)).trans (yf o)))
   refine Nv (v:= .tuple #[prV prZ ⟨none,0,none,0,none,0,none,0⟩,.int .i64 16,.int .i64 (Ke6 ts st'.pos s.size)]) Lg rfl ?_;exact Ubp
theorem Kip (size:Nat):∀f left out,(Key size f left out).1.length<=out.length+f
 | 0,_,_=>by unfold Key;exact Ns _
 | f+1,left,out=>by
  rw [Key]
  split
  ·exact Uh
  ·split
   ·exact Nat.le_trans (Kip size f _ _) Ud
   ·exact Uh
theorem Knk (s:ByteArray):(Kdk s).1.length<=4097:=by
 unfold Kdk
 split
 ·exact Uh
 ·have:=Kip s.size (s.size+1) (Kfi s) [];simp only [Nm] at this;exact Ua
theorem Khm (s:ByteArray) (W:World) (hs:s.size<=maxLen):Calls Tryz.prog 7 #[.string s] W (Khe W (Kdm s)):=by
 by_cases h0:(Kdk s).2.1=0
 ·have hl:=Knk s;have he:=Knv (Kdk s).1;obtain⟨S,hS⟩:∃S,S=Kdk s:=⟨_,rfl⟩;obtain⟨H,hH⟩:∃H,H=Kew (Kdk s).1:=⟨_,rfl⟩;have hm:=fun at0 (h:Kdk s=((Kdk s).1,0,at0))=>Kk9 s W hs (at0:=at0) h Ua (p0:=H.1) (stH:=H.2) hH.symm (by rw [hH];exact he)
  have hv:Kdm s=(if (Kd8 (Kdk s).1 s.size ((Kdk s).1.length+1) [] H.2).2.1≠0 then(prZ,(Kd8 (Kdk s).1 s.size ((Kdk s).1.length+1) [] H.2).2.1,(Kd8 (Kdk s).1 s.size ((Kdk s).1.length+1) [] H.2).2.2.1)
   else if (Kd8 (Kdk s).1 s.size ((Kdk s).1.length+1) [] H.2).2.2.2.bad=true\/(Kd8 (Kdk s).1 s.size ((Kdk s).1.length+1) [] H.2).2.2.2.pos<(Kdk s).1.length then(prZ,16,Ke6 (Kdk s).1 (Kd8 (Kdk s).1 s.size ((Kdk s).1.length+1) [] H.2).2.2.2.pos s.size) else({H.1 with eqs:=(Kd8 (Kdk s).1 s.size ((Kdk s).1.length+1) [] H.2).1},0,0)):=by
   unfold Kdm;rw [if_neg Lv,hH]
  rw [hv];refine hm (Kdk s).2.2 ?_;rw [<-hS] at h0 ⊢;obtain⟨ts,e,at0⟩:=S;dsimp only at h0 ⊢;rw [h0]
 ·have hv:Kdm s=(prZ,(Kdk s).2.1,(Kdk s).2.2):=by unfold Kdm;rw [if_pos h0]
  rw [hv];exact Kk5 s W hs h0
end Go.Proofs.YtdgjplldlfeolaaGreatDoor
