/- Lemmas. -/
import Derived.Test.YtdgjplldlfeolaaGreatDoorZ38
import Derived.Test.YtdgjplldlfeolaaGreatDoorZ04
import Derived.Test.YtdgjplldlfeolaaGreatDoorZ21
import Derived.Test.YtdgjplldlfeolaaGreatDoorZ37
import Derived.Test.YtdgjplldlfeolaaGreatDoorZ17
import Derived.Test.YtdgjplldlfeolaaGreatDoorZ01
set_option linter.unusedVariables false
set_option linter.unusedSimpArgs false
set_option maxRecDepth 100000
set_option maxHeartbeats 64000000
namespace Go.Proofs.YtdgjplldlfeolaaGreatDoor
open Go.RowKit Go.Sort
def Kjo (B:Nat) (ts:List Tk) (A:Option Addr) (cap:Nat) (W:World) (x:Pr×St) (r:Ending) (W':World):Prop:=
 (∃A1 c1 A2 c2 A3 c3,r = .returned (.agg #[.string x.1.name,.slice A1 x.1.ins.length c1,.slice A2 x.1.outs.length c2,.slice A3 x.1.locals.length c3,.slice none 0 0])/\Off W.heap.size none W' (fun V=>Ju V x.1.ins A1 c1/\Ju V x.1.outs A2 c2/\Ju V x.1.locals A3 c3))/\X2 B ts A cap W' x.2/\J6 (fun b=>b=B) W W'
theorem Kl4 {B:Nat} {ts:List Tk} {A:Option Addr} {cap:Nat} {st sA sB sC sD sE sF:St} {nm:ByteArray} {ins outs:List Va} {W:World} (h:X2 B ts A cap W st) (ai:ts.length<=100000)
  (bg:∀W',X2 B ts A cap W' st->Calls Tryz.prog 37 #[.pointer (some ⟨B,0,none⟩),.string ⟨#[110,111,100,101]⟩] W' (Keu B ts A cap W' (.tuple #[]) sA))
  (aL:∀W',X2 B ts A cap W' sA->Calls Tryz.prog 38 #[.pointer (some ⟨B,0,none⟩)] W' (Keu B ts A cap W' (.string nm) sB))
  (js:∀W',X2 B ts A cap W' sB->Calls Tryz.prog 39 #[.pointer (some ⟨B,0,none⟩)] W' (Khn B ts A cap W' (ins,sC)))
  (sR:∀W',X2 B ts A cap W' sC->Calls Tryz.prog 37 #[.pointer (some ⟨B,0,none⟩),.string ⟨#[114,101,116,117,114,110,115]⟩] W' (Keu B ts A cap W' (.tuple #[]) sD))
  (gN:∀W',X2 B ts A cap W' sD->Calls Tryz.prog 39 #[.pointer (some ⟨B,0,none⟩)] W' (Khn B ts A cap W' (outs,sE)))
  (hn5:∀W',X2 B ts A cap W' sE->Calls Tryz.prog 37 #[.pointer (some ⟨B,0,none⟩),.string ⟨#[59]⟩] W' (Keu B ts A cap W' (.tuple #[]) sF))
  (hs:Kc5 ts sF ⟨#[118,97,114]⟩=false) :
  Calls Tryz.prog 17 #[.pointer (some ⟨B,0,none⟩)] W (Kjo B ts A cap W (⟨nm,ins,outs,[],[]⟩,Kda ts sF ⟨#[108,101,116]⟩)):=by
 have cm:=h.lt;have aS:W.heap.size≠B:=by omega
 have hn7:=fun W' (h':X2 B ts A cap W' sF)=>Koc h' ⟨#[108,101,116]⟩ ai;generalize Kda ts sF ⟨#[108,101,116]⟩=sG at hn7 ⊢;unfold Khn at js gN;dsimp only at js gN ⊢;have HP:=Lib.hid h;clear h
 go_enter Tryz.func17,Tryz.ntmps17
 go_wp2_with (first
  | (go_at_call_of 37 (Value.string ⟨#[110,111,100,101]⟩);go_loud (refine(bg _ (HP.out.alloc _)).mono ?_;rintro r w0 ⟨rfl,pp,iP⟩;have bD:=iP.size;(try simp at bD)))
  | (go_at_call 38;go_loud (refine(aL _ pp).mono ?_;rintro r w1 ⟨rfl,ii,hk⟩;have cD:=iP.trans' hk;have af:=cD.size;(try simp at af);have al:w1.heap.size≠B:=(by omega);have vb:B<w1.heap.size:=(by omega)))
  | (go_at_call 39;go_loud (refine(gN _ ip).mono ?_;rintro r w4 ⟨⟨Ao,co,rfl,hoo⟩,bT,iA⟩;have lk:=dU.trans' iA;have qS:=lk.size;have hz34:=iA.size;(try simp at qS);have ns:w1.heap.size<w4.heap.size:=(by omega);have d0:w4.cell? ⟨w1.heap.size,0,none⟩=some (.string nm):=(K1 lk _ _ al (by simp <;> omega)).trans (by go_simp);have d1:w4.cell? ⟨w1.heap.size,1,none⟩=some (.slice Ai ins.length ci):=(K1 lk _ _ al (by simp <;> omega)).trans (by go_simp);have d2:w4.cell? ⟨w1.heap.size,2,none⟩=some (.slice none 0 0):=(K1 lk _ _ al (by simp <;> omega)).trans (by go_simp);have d3:w4.cell? ⟨w1.heap.size,3,none⟩=some (.slice none 0 0):=(K1 lk _ _ al (by simp <;> omega)).trans (by go_simp);have d4:w4.cell? ⟨w1.heap.size,4,none⟩=some (.slice none 0 0):=(K1 lk _ _ al (by simp <;> omega)).trans (by go_simp);have df:∀o,w4.frozen? ⟨w1.heap.size,o,none⟩=false:=fun o=>(kfz lk _ _ al (by simp <;> omega)).trans (by go_simp)))
  | (go_at_call 39;go_loud (refine(js _ (ii.alloc _)).mono ?_;rintro r w2 ⟨⟨Ai,ci,rfl,hoi⟩,gL,dz⟩;have br:=dz.size;(try simp at br);have gq:w1.heap.size<w2.heap.size:=(by omega);have c0:w2.cell? ⟨w1.heap.size,0,none⟩=some (.string nm):=(K1 dz _ _ al (by simp <;> omega)).trans (by go_simp);have c1:w2.cell? ⟨w1.heap.size,1,none⟩=some (.slice none 0 0):=(K1 dz _ _ al (by simp <;> omega)).trans (by go_simp);have c2:w2.cell? ⟨w1.heap.size,2,none⟩=some (.slice none 0 0):=(K1 dz _ _ al (by simp <;> omega)).trans (by go_simp);have c3:w2.cell? ⟨w1.heap.size,3,none⟩=some (.slice none 0 0):=(K1 dz _ _ al (by simp <;> omega)).trans (by go_simp);have c4:w2.cell? ⟨w1.heap.size,4,none⟩=some (.slice none 0 0):=(K1 dz _ _ al (by simp <;> omega)).trans (by go_simp);have cf:∀o,w2.frozen? ⟨w1.heap.size,o,none⟩=false:=fun o=>(kfz dz _ _ al (by simp)).trans (by go_simp)))
  | (go_at_call_of 37 (Value.string ⟨#[114,101,116,117,114,110,115]⟩);go_loud (have hpx:=gL.beyond (c:=w1.heap.size) vb 1 (.slice Ai ins.length ci);refine(sR _ hpx).mono ?_;rintro r w3 ⟨rfl,ip,dU⟩;have fe:=dU.size;(try simp at fe)))
  | (go_at_call_of 37 (Value.string ⟨#[59]⟩);go_loud (have hpx:=bT.beyond (c:=w1.heap.size) vb 2 (.slice Ao outs.length co);refine(hn5 _ hpx).mono ?_;rintro r w5 ⟨rfl,dv,bb⟩))
  | (go_at_call_of 18 (Value.string ⟨#[118,97,114]⟩);go_loud (refine(Kdf dv hs ai).mono ?_;rintro r w6 ⟨rfl,tj,cu⟩;have hP:=bb.trans' cu;have hz6:=hP.size;(try simp at hz6);have lH:w1.heap.size<w6.heap.size:=(by omega);have pz:W.heap.size<w6.heap.size:=(by omega);have bn:=((((cD.trans' (K2 dz)).fresh (c:=w1.heap.size) (by simp <;> omega) _ _).trans' lk).fresh (c:=w1.heap.size) (by simp <;> omega) _ _).trans' hP;have g0:w6.cell? ⟨w1.heap.size,0,none⟩=some (.string nm):=(K1 hP _ _ al (by simp <;> omega)).trans (by go_simp);have g1:w6.cell? ⟨w1.heap.size,1,none⟩=some (.slice Ai ins.length ci):=(K1 hP _ _ al (by simp <;> omega)).trans (by go_simp);have g2:w6.cell? ⟨w1.heap.size,2,none⟩=some (.slice Ao outs.length co):=(K1 hP _ _ al (by simp <;> omega)).trans (by go_simp);have g3:w6.cell? ⟨w1.heap.size,3,none⟩=some (.slice none 0 0):=(K1 hP _ _ al (by simp <;> omega)).trans (by go_simp);have g4:w6.cell? ⟨w1.heap.size,4,none⟩=some (.slice none 0 0):=(K1 hP _ _ al (by simp <;> omega)).trans (by go_simp);have gf:∀o,w6.frozen? ⟨w1.heap.size,o,none⟩=false:=fun o=>(kfz hP _ _ al (by simp <;> omega)).trans (by go_simp);have z0:w6.cell? ⟨W.heap.size,0,none⟩=some (.string ⟨#[]⟩):=(K1 bn _ _ aS (by simp <;> omega)).trans (by go_simp);have z1:w6.cell? ⟨W.heap.size,1,none⟩=some (.slice none 0 0):=(K1 bn _ _ aS (by simp <;> omega)).trans (by go_simp);have z2:w6.cell? ⟨W.heap.size,2,none⟩=some (.slice none 0 0):=(K1 bn _ _ aS (by simp <;> omega)).trans (by go_simp);have z3:w6.cell? ⟨W.heap.size,3,none⟩=some (.slice none 0 0):=(K1 bn _ _ aS (by simp <;> omega)).trans (by go_simp);have z4:w6.cell? ⟨W.heap.size,4,none⟩=some (.slice none 0 0):=(K1 bn _ _ aS (by simp <;> omega)).trans (by go_simp);have zf:∀o,w6.frozen? ⟨W.heap.size,o,none⟩=false:=fun o=>(kfz bn _ _ aS (by simp)).trans (by go_simp)))
  | (go_at_call_of 37 (Value.string ⟨#[108,101,116]⟩);go_loud (refine(hn7 _ tj).mono ?_;rintro r w7 ⟨rfl,hp7,hk7⟩;have hz7:=hk7.size;have xd:w1.heap.size<w7.heap.size:=(by omega);have hy7a:W.heap.size<w7.heap.size:=(by omega);have hcg7:=K1 hk7;have hfg7:=kfz hk7;have y0:=(K1 hk7 _ _ aS pz).trans z0;have y1:=(K1 hk7 _ _ aS pz).trans z1;have y2:=(K1 hk7 _ _ aS pz).trans z2;have y3:=(K1 hk7 _ _ aS pz).trans z3;have y4:=(K1 hk7 _ _ aS pz).trans z4)))
 refine bodyPost_ret (v:= .agg #[.string nm,.slice Ai ins.length ci,.slice Ao outs.length co,.slice none 0 0,.slice none 0 0]) (by simp [results,Tryz.results17,go_sem, *]) rfl ?_;have hoi6:Off (w1.heap.size+1) none w6 (fun V=>Ju V ins Ai ci):=(Kdv ((Kdv (hoi.less (show w1.heap.size+1<=_ by simp)) (c:=w1.heap.size) (by omega) 1 (.slice Ai ins.length ci)).kept (by omega) lk) (c:=w1.heap.size) (by omega) 2 (.slice Ao outs.length co)).kept (by omega) hP;have hoo6:Off (w1.heap.size+1) none w6 (fun V=>Ju V outs Ao co):=(Kdv (hoo.less (show w1.heap.size+1<=w3.heap.size by omega)) (c:=w1.heap.size) (by omega) 2 (.slice Ao outs.length co)).kept (by omega) hP;refine⟨⟨Ai,ci,Ao,co,none,0,rfl,Off.less (base0:=W.heap.size+1) ?_ (by omega)⟩,?_,?_⟩
 ·have h1:=(hoi6.kept (by omega) hk7).less (show W.heap.size+1<=_ by omega);have h2:=(hoo6.kept (by omega) hk7).less (show W.heap.size+1<=_ by omega);have h3:=h1.and (h2.and (Kex (W.heap.size+1) w7 (P:=fun V=>Ju V [] none 0) fun V=>⟨Nat.le_refl _,by unfold maxLen;omega,fun h=>absurd h (by simp)⟩))
  repeat (first|with_reducible exact h3|refine Kdv ?_ (by omega) _ _)
 ·repeat (first|with_reducible exact hp7|with_reducible refine X2.beyond ?_ (by omega) _ _)
 ·have hkZ:=K2 (bn.trans' hk7)
  repeat (first|with_reducible exact hkZ|with_reducible refine J6.fresh ?_ (by omega) _ _)
structure Kfm (B g:Nat) (ts:List Tk) (A:Option Addr) (cap:Nat) (WL w:World) (nm:ByteArray) (i1 i2:Value) (l:List Va) (Al:Option Addr) (cl:Nat) (st:St):Prop where
 ps:X2 B ts A cap w st
 kept:J6 (fun k=>k=B\/k=g) WL w
 own:w.ownsRow WL.heap.size 83 4 (.slice Al l.length cl) l.length (Xe l)
 c0:w.cell? ⟨g,0,none⟩=some (.string nm)
 c1:w.cell? ⟨g,1,none⟩=some i1
 c2:w.cell? ⟨g,2,none⟩=some i2
 c3:w.cell? ⟨g,3,none⟩=some (.slice Al l.length cl)
 c4:w.cell? ⟨g,4,none⟩=some (.slice none 0 0)
 fg:∀o,w.frozen? ⟨g,o,none⟩=false
 Bg:B<g
 gL:g<WL.heap.size
theorem J6.weak {S T:Nat->Prop} {W W':World} (h:J6 S W W') (hS:∀k,S k->T k):J6 T W W':=⟨h.os,h.tape,h.output,h.size,fun k hk hT=>h.block k hk fun hs=>hT (hS k hs)⟩
theorem Kfm.lt {B g:Nat} {ts:List Tk} {A:Option Addr} {cap:Nat} {WL w:World} {nm:ByteArray} {i1 i2:Value} {l:List Va} {Al:Option Addr} {cl:Nat} {st:St} (h:Kfm B g ts A cap WL w nm i1 i2 l Al cl st):g<w.heap.size:=Nat.lt_of_lt_of_le h.gL h.kept.size
theorem Kfm.on {B g:Nat} {ts:List Tk} {A:Option Addr} {cap:Nat} {WL w w':World} {nm:ByteArray} {i1 i2:Value} {l:List Va} {Al:Option Addr} {cl:Nat} {st st':St} (h:Kfm B g ts A cap WL w nm i1 i2 l Al cl st) (hk:J6 (fun b=>b=B) w w') (hp:X2 B ts A cap w' st'):Kfm B g ts A cap WL w' nm i1 i2 l Al cl st':=by
 have vb:=h.Bg;have hgL:=h.gL;have hg:=h.lt;have ng:g≠B:=by omega
 exact⟨hp,h.kept.trans' (hk.weak fun k hk=> .inl hk),Khg h.own (by omega) hk,(K1 hk _ _ ng hg).trans h.c0,(K1 hk _ _ ng hg).trans h.c1,(K1 hk _ _ ng hg).trans h.c2,(K1 hk _ _ ng hg).trans h.c3,(K1 hk _ _ ng hg).trans h.c4,fun o=>(kfz hk _ _ ng hg).trans (h.fg o),vb,hgL⟩
theorem Kfm.mid {B g:Nat} {ts:List Tk} {A:Option Addr} {cap:Nat} {WL w w':World} {nm:ByteArray} {i1 i2:Value} {l:List Va} {Al:Option Addr} {cl:Nat} {st:St} (h:Kfm B g ts A cap WL w nm i1 i2 l Al cl st) (hg:w.grownBy w' (Value.slice Al l.length cl).ownBlock):w'.cell? ⟨g,3,none⟩=some (.slice Al l.length cl)/\w'.frozen? ⟨g,3,none⟩=false:=by
 have hgL:=h.gL;have hb:w'.heap[g]?=w.heap[g]?:=hg.block g h.lt fun he=>by have:=(h.own.lt g he.symm).1;omega
 exact⟨Jr hb h.c3,(World.frozen?_of_block hb).trans (h.fg 3)⟩
theorem Kfm.app {B g:Nat} {ts:List Tk} {A:Option Addr} {cap:Nat} {WL w w':World} {nm:ByteArray} {i1 i2:Value} {l:List Va} {Al A6:Option Addr} {cl c6:Nat} {st:St} {d:Va} (h:Kfm B g ts A cap WL w nm i1 i2 l Al cl st) (ho:w'.ownsRow WL.heap.size 83 4 (.slice A6 (l.length+1) c6) (l.length+1) (Xe l ++ vaC d)) (hg:w.grownBy w' (Value.slice Al l.length cl).ownBlock) :
  Kfm B g ts A cap WL (w'.setCell ⟨g,3,none⟩ (.slice A6 (l.length+1) c6)) nm i1 i2 (l ++ [d]) A6 c6 st:=by
 have vb:=h.Bg;have hgL:=h.gL;have am:=h.lt;have hb:∀b,b<WL.heap.size->w'.heap[b]?=w.heap[b]?:=fun b hb=>hg.block b (Nat.lt_of_lt_of_le hb h.kept.size) fun he=>by have:=(h.own.lt b he.symm).1;omega
 have ev:∀o v,w.cell? ⟨g,o,none⟩=some v->w'.cell? ⟨g,o,none⟩=some v:=fun o v hv=>Jr (hb g hgL) hv;have aS:∀o v,o≠3->w.cell? ⟨g,o,none⟩=some v->(w'.setCell ⟨g,3,none⟩ (.slice A6 (l.length+1) c6)).cell? ⟨g,o,none⟩=some v:=fun o v ho hv=>(J5 _ _ _ _ _ ho).trans (ev o v hv);have ai:(l ++ [d]).length=l.length+1:=by simp
 refine⟨(h.ps.app h.own (by omega) hg).beyond vb _ _,?_,?_,aS _ _ (by decide) h.c0,aS _ _ (by decide) h.c1,aS _ _ (by decide) h.c2,?_,aS _ _ (by decide) h.c4,fun o=>?_,vb,hgL⟩
 ·have h1:J6 (fun k=>k=B\/k=g) WL w':=h.kept.trans (J6.grown (S:=fun k=>(Value.slice Al l.length cl).ownBlock=some k) hg fun k hk=>hk) fun k hk hs=>by have:=(h.own.lt k hs).1;omega
  exact h1.setCell (b:=g) (.inr rfl) _ _
 ·rw [ai];have:=Jbd ho (z:=g) (by omega) 3 (.slice A6 (l.length+1) c6);simpa [Xe] using this
 ·rw [ai];exact World.cell?_setCell_same _ _ _ (ev _ _ h.c3)
 ·rw [World.frozen?_setCell,World.frozen?_of_block (hb g hgL)];exact h.fg o
theorem Knm {B:Nat} {ts:List Tk} {A:Option Addr} {cap:Nat} {st sA sB sC sD sE sF:St} {nm:ByteArray} {ins outs:List Va} {W:World} (h:X2 B ts A cap W st) (ai:ts.length<=100000)
  (bg:∀W',X2 B ts A cap W' st->Calls Tryz.prog 37 #[.pointer (some ⟨B,0,none⟩),.string ⟨#[110,111,100,101]⟩] W' (Keu B ts A cap W' (.tuple #[]) sA))
  (aL:∀W',X2 B ts A cap W' sA->Calls Tryz.prog 38 #[.pointer (some ⟨B,0,none⟩)] W' (Keu B ts A cap W' (.string nm) sB))
  (js:∀W',X2 B ts A cap W' sB->Calls Tryz.prog 39 #[.pointer (some ⟨B,0,none⟩)] W' (Khn B ts A cap W' (ins,sC)))
  (sR:∀W',X2 B ts A cap W' sC->Calls Tryz.prog 37 #[.pointer (some ⟨B,0,none⟩),.string ⟨#[114,101,116,117,114,110,115]⟩] W' (Keu B ts A cap W' (.tuple #[]) sD))
  (gN:∀W',X2 B ts A cap W' sD->Calls Tryz.prog 39 #[.pointer (some ⟨B,0,none⟩)] W' (Khn B ts A cap W' (outs,sE)))
  (hn5:∀W',X2 B ts A cap W' sE->Calls Tryz.prog 37 #[.pointer (some ⟨B,0,none⟩),.string ⟨#[59]⟩] W' (Keu B ts A cap W' (.tuple #[]) sF))
  (hs:Kc5 ts sF ⟨#[118,97,114]⟩=true) :
  Calls Tryz.prog 17 #[.pointer (some ⟨B,0,none⟩)] W (Kjo B ts A cap W (⟨nm,ins,outs,(Kfj ts (ts.length+1) [(Kez ts ⟨sF.pos+1,sF.bad⟩).1] (Kez ts ⟨sF.pos+1,sF.bad⟩).2).1,[]⟩,Kda ts (Kfj ts (ts.length+1) [(Kez ts ⟨sF.pos+1,sF.bad⟩).1] (Kez ts ⟨sF.pos+1,sF.bad⟩).2).2 ⟨#[108,101,116]⟩)):=by
 have cm:=h.lt;have aS:W.heap.size≠B:=by omega
 have am:=Ket hs;have ae:=fun W' (h':X2 B ts A cap W' ⟨sF.pos+1,sF.bad⟩)=>Kj1 h' ai;have hmv:=(Kjc ts ⟨sF.pos+1,sF.bad⟩).2.1;generalize Kez ts ⟨sF.pos+1,sF.bad⟩=D at ae hmv ⊢;obtain⟨d,sG⟩:=D;replace hmv:sF.pos+1<=sG.pos:=hmv;obtain⟨R,hR⟩:∃R,R=Kfj ts (ts.length+1) [d] sG:=⟨_,rfl⟩;dsimp only at ae ⊢;rw [<-hR];have vi:=Lib.hid hR;clear hR;unfold Khn at js gN;unfold vaV at ae;dsimp only at js gN ⊢;have HP:=Lib.hid h;clear h
 go_enter Tryz.func17,Tryz.ntmps17
 go_wp2_with (first
  | (go_at_call_of 37 (Value.string ⟨#[110,111,100,101]⟩);go_loud (refine(bg _ (HP.out.alloc _)).mono ?_;rintro r w0 ⟨rfl,pp,iP⟩;have bD:=iP.size;(try simp at bD)))
  | (go_at_call 38;go_loud (refine(aL _ pp).mono ?_;rintro r w1 ⟨rfl,ii,hk⟩;have cD:=iP.trans' hk;have af:=cD.size;(try simp at af);have al:w1.heap.size≠B:=(by omega);have vb:B<w1.heap.size:=(by omega)))
  | (go_at_call 39;go_loud (refine(gN _ ip).mono ?_;rintro r w4 ⟨⟨Ao,co,rfl,hoo⟩,bT,iA⟩;have lk:=dU.trans' iA;have qS:=lk.size;have hz34:=iA.size;(try simp at qS);have ns:w1.heap.size<w4.heap.size:=(by omega);have d0:w4.cell? ⟨w1.heap.size,0,none⟩=some (.string nm):=(K1 lk _ _ al (by simp <;> omega)).trans (by go_simp);have d1:w4.cell? ⟨w1.heap.size,1,none⟩=some (.slice Ai ins.length ci):=(K1 lk _ _ al (by simp <;> omega)).trans (by go_simp);have d2:w4.cell? ⟨w1.heap.size,2,none⟩=some (.slice none 0 0):=(K1 lk _ _ al (by simp <;> omega)).trans (by go_simp);have d3:w4.cell? ⟨w1.heap.size,3,none⟩=some (.slice none 0 0):=(K1 lk _ _ al (by simp <;> omega)).trans (by go_simp);have d4:w4.cell? ⟨w1.heap.size,4,none⟩=some (.slice none 0 0):=(K1 lk _ _ al (by simp <;> omega)).trans (by go_simp);have df:∀o,w4.frozen? ⟨w1.heap.size,o,none⟩=false:=fun o=>(kfz lk _ _ al (by simp <;> omega)).trans (by go_simp)))
  | (go_at_call 39;go_loud (refine(js _ (ii.alloc _)).mono ?_;rintro r w2 ⟨⟨Ai,ci,rfl,hoi⟩,gL,dz⟩;have br:=dz.size;(try simp at br);have gq:w1.heap.size<w2.heap.size:=(by omega);have c0:w2.cell? ⟨w1.heap.size,0,none⟩=some (.string nm):=(K1 dz _ _ al (by simp <;> omega)).trans (by go_simp);have c1:w2.cell? ⟨w1.heap.size,1,none⟩=some (.slice none 0 0):=(K1 dz _ _ al (by simp <;> omega)).trans (by go_simp);have c2:w2.cell? ⟨w1.heap.size,2,none⟩=some (.slice none 0 0):=(K1 dz _ _ al (by simp <;> omega)).trans (by go_simp);have c3:w2.cell? ⟨w1.heap.size,3,none⟩=some (.slice none 0 0):=(K1 dz _ _ al (by simp <;> omega)).trans (by go_simp);have c4:w2.cell? ⟨w1.heap.size,4,none⟩=some (.slice none 0 0):=(K1 dz _ _ al (by simp <;> omega)).trans (by go_simp);have cf:∀o,w2.frozen? ⟨w1.heap.size,o,none⟩=false:=fun o=>(kfz dz _ _ al (by simp)).trans (by go_simp)))
  | (go_at_call_of 37 (Value.string ⟨#[114,101,116,117,114,110,115]⟩);go_loud (have hpx:=gL.beyond (c:=w1.heap.size) vb 1 (.slice Ai ins.length ci);refine(sR _ hpx).mono ?_;rintro r w3 ⟨rfl,ip,dU⟩;have fe:=dU.size;(try simp at fe)))
  | (go_at_call_of 37 (Value.string ⟨#[59]⟩);go_loud (have hpx:=bT.beyond (c:=w1.heap.size) vb 2 (.slice Ao outs.length co);refine(hn5 _ hpx).mono ?_;rintro r w5 ⟨rfl,dv,bb⟩))
  | (go_at_call_of 18 (Value.string ⟨#[118,97,114]⟩);go_loud (refine(Kdr dv hs ai).mono ?_;rintro r w6 ⟨rfl,tj,cu⟩;have hP:=bb.trans' cu;have hz6:=hP.size;(try simp at hz6);have lH:w1.heap.size<w6.heap.size:=(by omega);have pz:W.heap.size<w6.heap.size:=(by omega);have bn:=((((cD.trans' (K2 dz)).fresh (c:=w1.heap.size) (by simp <;> omega) _ _).trans' lk).fresh (c:=w1.heap.size) (by simp <;> omega) _ _).trans' hP;have g0:w6.cell? ⟨w1.heap.size,0,none⟩=some (.string nm):=(K1 hP _ _ al (by simp <;> omega)).trans (by go_simp);have g1:w6.cell? ⟨w1.heap.size,1,none⟩=some (.slice Ai ins.length ci):=(K1 hP _ _ al (by simp <;> omega)).trans (by go_simp);have g2:w6.cell? ⟨w1.heap.size,2,none⟩=some (.slice Ao outs.length co):=(K1 hP _ _ al (by simp <;> omega)).trans (by go_simp);have g3:w6.cell? ⟨w1.heap.size,3,none⟩=some (.slice none 0 0):=(K1 hP _ _ al (by simp <;> omega)).trans (by go_simp);have g4:w6.cell? ⟨w1.heap.size,4,none⟩=some (.slice none 0 0):=(K1 hP _ _ al (by simp <;> omega)).trans (by go_simp);have gf:∀o,w6.frozen? ⟨w1.heap.size,o,none⟩=false:=fun o=>(kfz hP _ _ al (by simp <;> omega)).trans (by go_simp);have z0:w6.cell? ⟨W.heap.size,0,none⟩=some (.string ⟨#[]⟩):=(K1 bn _ _ aS (by simp <;> omega)).trans (by go_simp);have z1:w6.cell? ⟨W.heap.size,1,none⟩=some (.slice none 0 0):=(K1 bn _ _ aS (by simp <;> omega)).trans (by go_simp);have z2:w6.cell? ⟨W.heap.size,2,none⟩=some (.slice none 0 0):=(K1 bn _ _ aS (by simp <;> omega)).trans (by go_simp);have z3:w6.cell? ⟨W.heap.size,3,none⟩=some (.slice none 0 0):=(K1 bn _ _ aS (by simp <;> omega)).trans (by go_simp);have z4:w6.cell? ⟨W.heap.size,4,none⟩=some (.slice none 0 0):=(K1 bn _ _ aS (by simp <;> omega)).trans (by go_simp);have zf:∀o,w6.frozen? ⟨W.heap.size,o,none⟩=false:=fun o=>(kfz bn _ _ aS (by simp)).trans (by go_simp))))
 have hoi6:Off (w1.heap.size+1) none w6 (fun V=>Ju V ins Ai ci):=(Kdv ((Kdv (hoi.less (show w1.heap.size+1<=_ by simp)) (c:=w1.heap.size) (by omega) 1 (.slice Ai ins.length ci)).kept (by omega) lk) (c:=w1.heap.size) (by omega) 2 (.slice Ao outs.length co)).kept (by omega) hP;have hoo6:Off (w1.heap.size+1) none w6 (fun V=>Ju V outs Ao co):=(Kdv (hoo.less (show w1.heap.size+1<=w3.heap.size by omega)) (c:=w1.heap.size) (by omega) 2 (.slice Ao outs.length co)).kept (by omega) hP;have aY:Kfm B w1.heap.size ts A cap w6 w6 nm (.slice Ai ins.length ci) (.slice Ao outs.length co) [] none 0 ⟨sF.pos+1,sF.bad⟩:=⟨tj,J6.refl _,World.ownsRow_nil _ _ _ _,g0,g1,g2,g3,g4,gf,vb,lH⟩;have hkXa:=K2 bn;have hlL:sG.pos<=ts.length\/True:= .inr trivial;clear g0 g1 g2 g3 g4 gf iP cD dz dU iA bb cu lk hP hoi hoo c0 c1 c2 c3 c4 cf d0 d1 d2 d3 d4 df pp ii gL ip bT dv hlL bn bg aL js sR gN hn5;have eS:=aY.lt;have q3:=aY.c3;refine Kd (fun V:World=>V.cell? ⟨w1.heap.size,3,none⟩=some (.slice (none) (([]:List Va)).length (0))) 5 3 (by kernel_rfl) (by rfl) ?_;simp only [List.size_toArray,List.length_cons,List.length_nil,Nat.zero_add,Nat.reduceAdd];have ar:(w6).drew.cell? ⟨w1.heap.size,3,none⟩=some (.slice (none) (([]:List Va)).length (0)):=q3;refine Ji 0 ar ?_;refine Ji 1 ar ?_;refine Ji 2 ar ?_;refine Kb 3 ?_;refine Jj fun K hK=>?_;go_simp;refine(ae _ (tj).drew).mono ?_;rintro r wo ⟨rfl,hpo,hko⟩;dsimp only;have mz:=(aY.on (J6.refl _).drew (tj).drew).on hko hpo;refine hK _ _ ⟨mz.c3,?_⟩;clear hK K
 try simp only [Act.put,sa1,sa2,sa3]
 refine Kb 4 ?_;refine Jj fun K hK=>?_;go_simp;refine hK _ _ ⟨J4 mz.c3,?_⟩;clear hK K
 try simp only [Act.put,sa1,sa2,sa3]
 have kR:=mz.on ((J6.refl wo).alloc (.cells #[.string d.name,.int .i64 d.type,.int .i64 d.ck,.string d.cn] 83)) (hpo.alloc _);have hwL:=mz.kept.size;refine Kh (by kernel_rfl) ?_;refine Qx 5 ?_;refine Ji5 (.tmp 32) (.tmp 35) 35 rfl w6.heap.size 83 _ 4 48 Tryz.underlying35 Jc8 rfl (by omega) (.slice (none) (([]:List Va)).length (0)) (([]:List Va)).length (Xe (([]:List Va))) wo.heap.size 1 1 (vaC d) rfl kR.own rfl rfl (fun j u hj=>by rw [Kw];simpa [vaC] using hj) (by simp [vaC,Value.oneCell']) (by simp <;> omega) (by omega) (by simp <;> omega) ?_;intro v7 w7 my hg7 hv7;obtain⟨A7,c7,rfl,-,-⟩:=Jv my;have pr:=kR.mid hg7;obtain⟨m3,mf⟩:=pr;refine Qx 6 ?_;refine Jj fun K hK=>?_;go_simp;refine hK _ _ ?_;clear hK K
 try simp only [Act.put,sa1,sa2,sa3]
 refine Qx 7 ?_;refine Jj fun K hK=>?_;go_simp;refine hK _ _ ?_;clear hK K
 try simp only [Act.put,sa1,sa2,sa3]
 refine Ki (by kernel_rfl) ?_;have hat7:=kR.app my hg7;have hpo7:=hat7.ps.le;refine Zc fun V hV=>?_;have hatV:Kfm B w1.heap.size ts A cap w6 V nm (.slice Ai ins.length ci) (.slice Ao outs.length co) [d] A7 c7 sG:=by rw [hV];exact hat7
 clear hV hat7 kR mz my hg7 hv7 m3 mf hko hpo aY ae
 go_wp2_with fail
 go_loopg [] (ts.length+1) (fun k wr=>∃l st' Al cl,ts.length-st'.pos+(if st'.bad=true then 0 else 1)<k/\l.length+(ts.length-st'.pos)+(if st'.bad=true then 0 else 1)<=ts.length+2/\Kfj ts k l st'=R/\Kfm B w1.heap.size ts A cap w6 wr nm (.slice Ai ins.length ci) (.slice Ao outs.length co) l Al cl st')
 case atStart=>
  refine⟨[d],sG,A7,c7,?_,?_,vi.out.symm,hatV⟩
  ·split <;> omega
  ·simp only [List.length_singleton];split <;> omega
 case round=>
  obtain⟨l,st',Al,cl,hm,cY,aa,aY⟩:=hrel;clear hatV;obtain⟨k,rfl⟩:∃k,gk=k+1:=⟨gk-1,by omega⟩;have wu:=aY.ps;have hle':=wu.le;have b2:=wu.c2;have hBw:=wu.lt;rw [Kfj] at aa
  cases hb:st'.bad
  ·rw [hb,if_neg (by simp)] at aa;rw [hb] at b2 hm cY;rw [if_neg (by simp)] at hm cY
   cases h2:Kc5 ts st' ⟨#[108,101,116]⟩
   ·rw [h2,if_neg (by simp)] at aa;have ae:=fun W' (h':X2 B ts A cap W' st')=>Kj1 h' ai;have hmv:=Kjc ts st';generalize Kez ts st'=D at ae hmv aa;obtain⟨d,sH⟩:=D;obtain⟨hmv1,hmv2⟩:=hmv;have hmv3:=hmv2.2 hle';replace hmv2:st'.pos<=sH.pos:=hmv2.1;unfold vaV at ae;dsimp only at ae hmv1 hmv3 aa;have hse:=Kig wu ⟨#[108,101,116]⟩;rw [h2] at hse;have HR:=Lib.hid aa;clear aa
    go_wp2_with (go_at_call 41;go_loud (refine hse.mono ?_;rintro r ws ⟨rfl,uL⟩))
    have hats:=aY.on (J6.bel uL) (wu.later uL);have hpss:=hats.ps;have eS:=hats.lt;have q3:=hats.c3;refine Kd (fun V:World=>V.cell? ⟨w1.heap.size,3,none⟩=some (.slice (Al) (l).length (cl))) 5 3 (by kernel_rfl) (by rfl) ?_;simp only [List.size_toArray,List.length_cons,List.length_nil,Nat.zero_add,Nat.reduceAdd];have ar:(ws).drew.cell? ⟨w1.heap.size,3,none⟩=some (.slice (Al) (l).length (cl)):=q3;refine Ji 0 ar ?_;refine Ji 1 ar ?_;refine Ji 2 ar ?_;refine Kb 3 ?_;refine Jj fun K hK=>?_;go_simp;refine(ae _ (hpss).drew).mono ?_;rintro r wo ⟨rfl,hpo,hko⟩;dsimp only;have mz:=(hats.on (J6.refl _).drew (hpss).drew).on hko hpo;refine hK _ _ ⟨mz.c3,?_⟩;clear hK K
    try simp only [Act.put,sa1,sa2,sa3]
    refine Kb 4 ?_;refine Jj fun K hK=>?_;go_simp;refine hK _ _ ⟨J4 mz.c3,?_⟩;clear hK K
    try simp only [Act.put,sa1,sa2,sa3]
    have kR:=mz.on ((J6.refl wo).alloc (.cells #[.string d.name,.int .i64 d.type,.int .i64 d.ck,.string d.cn] 83)) (hpo.alloc _);have hwL:=mz.kept.size;refine Kh (by kernel_rfl) ?_;refine Qx 5 ?_;refine Ji5 (.tmp 52) (.tmp 55) 35 rfl w6.heap.size 83 _ 4 48 Tryz.underlying35 Jc8 rfl (by omega) (.slice (Al) (l).length (cl)) (l).length (Xe (l)) wo.heap.size 1 1 (vaC d) rfl kR.own rfl rfl (fun j u hj=>by rw [Kw];simpa [vaC] using hj) (by simp [vaC,Value.oneCell']) (by simp <;> omega) (by omega) (by simp <;> omega) ?_;intro v7 w7 my hg7 hv7;obtain⟨A7,c7,rfl,-,-⟩:=Jv my;have pr:=kR.mid hg7;obtain⟨m3,mf⟩:=pr;refine Qx 6 ?_;refine Jj fun K hK=>?_;go_simp;refine hK _ _ ?_;clear hK K
    try simp only [Act.put,sa1,sa2,sa3]
    refine Qx 7 ?_;refine Jj fun K hK=>?_;go_simp;refine hK _ _ ?_;clear hK K
    try simp only [Act.put,sa1,sa2,sa3]
    refine Ki (by kernel_rfl) ?_;have hat7:=kR.app my hg7
    go_wp2_with fail
    go_roundg k
    case measure=>omega
    case rel=>
     refine⟨l ++ [d],sH,A7,c7,?_,?_,HR.out,hat7⟩
     ·rcases hmv1 with h|h
      ·rw [if_pos h];omega
      ·split <;> omega
     ·rw [List.length_append,List.length_singleton]
      rcases hmv1 with h|h
      ·rw [if_pos h];omega
      ·split <;> omega
   ·rw [h2,if_pos rfl] at aa;have hse:=Kig wu ⟨#[108,101,116]⟩;rw [h2] at hse;have HR:=Lib.hid aa;clear aa;have hnL:=fun W' (h':X2 B ts A cap W' st')=>Koc h' ⟨#[108,101,116]⟩ ai
    go_wp2_with (first
     | (go_at_call 41;go_loud (refine hse.mono ?_;rintro r ws ⟨rfl,uL⟩;have hpL:=wu.later uL;have hkL:J6 (fun b=>b=B) wr ws:=J6.bel uL))
     | (go_at_call_of 37 (Value.string ⟨#[108,101,116]⟩);go_loud (refine(hnL _ hpL).mono ?_;rintro r w8 ⟨rfl,hp8,hk8⟩;have ml:=(aY.on hkL hpL).on hk8 hp8;have dx:=ml.kept;have hz8:=dx.size;have e0:=ml.c0;have e1:=ml.c1;have e2:=ml.c2;have e3:=ml.c3;have e4:=ml.c4;have kx:¬(W.heap.size=B\/W.heap.size=w1.heap.size):=(by omega);have y0:=dx.cell kx z0;have y1:=dx.cell kx z1;have y2:=dx.cell kx z2;have y3:=dx.cell kx z3;have y4:=dx.cell kx z4;have yf:∀o,w8.frozen? ⟨W.heap.size,o,none⟩=false:=fun o=>(World.frozen?_of_block (dx.block _ pz kx)).trans (zf o);have hy8:w1.heap.size<w8.heap.size:=(by omega);have hy8a:W.heap.size<w8.heap.size:=(by omega))))
    refine bodyPost_ret (v:= .agg #[.string nm,.slice Ai ins.length ci,.slice Ao outs.length co,.slice Al l.length cl,.slice none 0 0]) (by simp [results,Tryz.results17,go_sem, *]) rfl ?_;rw [<-HR.out];refine⟨⟨Ai,ci,Ao,co,Al,cl,rfl,Off.less (base0:=W.heap.size+1) ?_ (by omega)⟩,?_,?_⟩
    ·have h1:=((hoi6.grow (g':=none) (fun k h1 h2 _=>dx.block k h2 (by show ¬(k=B\/k=w1.heap.size);omega)) dx.size (.inl rfl))).less (show W.heap.size+1<=_ by omega);have h2:=((hoo6.grow (g':=none) (fun k h1 h2 _=>dx.block k h2 (by show ¬(k=B\/k=w1.heap.size);omega)) dx.size (.inl rfl))).less (show W.heap.size+1<=_ by omega);have h3:=(Kia ml.own).less (show W.heap.size+1<=_ by omega);have h4:=h1.and (h2.and h3)
     repeat (first|with_reducible exact h4|refine Kdv ?_ (by omega) _ _)
    ·repeat (first|with_reducible exact hp8|with_reducible refine X2.beyond ?_ (by omega) _ _)
    ·have hkZ:=hkXa.trans dx fun k hk hs=>hs.resolve_right (by omega)
     repeat (first|with_reducible exact hkZ|with_reducible refine J6.fresh ?_ (by omega) _ _)
  ·rw [hb,if_pos rfl] at aa;rw [hb] at b2;have HR:=Lib.hid aa;clear aa;have hnL:=fun W' (h':X2 B ts A cap W' st')=>Koc h' ⟨#[108,101,116]⟩ ai;have hpL:=wu;have hkL:J6 (fun b=>b=B) wr wr:=J6.refl _
   go_wp2_with (first
    | (go_at_call_of 37 (Value.string ⟨#[108,101,116]⟩);go_loud (refine(hnL _ hpL).mono ?_;rintro r w8 ⟨rfl,hp8,hk8⟩;have ml:=(aY.on hkL hpL).on hk8 hp8;have dx:=ml.kept;have hz8:=dx.size;have e0:=ml.c0;have e1:=ml.c1;have e2:=ml.c2;have e3:=ml.c3;have e4:=ml.c4;have kx:¬(W.heap.size=B\/W.heap.size=w1.heap.size):=(by omega);have y0:=dx.cell kx z0;have y1:=dx.cell kx z1;have y2:=dx.cell kx z2;have y3:=dx.cell kx z3;have y4:=dx.cell kx z4;have yf:∀o,w8.frozen? ⟨W.heap.size,o,none⟩=false:=fun o=>(World.frozen?_of_block (dx.block _ pz kx)).trans (zf o);have hy8:w1.heap.size<w8.heap.size:=(by omega);have hy8a:W.heap.size<w8.heap.size:=(by omega))))
   refine bodyPost_ret (v:= .agg #[.string nm,.slice Ai ins.length ci,.slice Ao outs.length co,.slice Al l.length cl,.slice none 0 0]) (by simp [results,Tryz.results17,go_sem, *]) rfl ?_;rw [<-HR.out];refine⟨⟨Ai,ci,Ao,co,Al,cl,rfl,Off.less (base0:=W.heap.size+1) ?_ (by omega)⟩,?_,?_⟩
   ·have h1:=((hoi6.grow (g':=none) (fun k h1 h2 _=>dx.block k h2 (by show ¬(k=B\/k=w1.heap.size);omega)) dx.size (.inl rfl))).less (show W.heap.size+1<=_ by omega);have h2:=((hoo6.grow (g':=none) (fun k h1 h2 _=>dx.block k h2 (by show ¬(k=B\/k=w1.heap.size);omega)) dx.size (.inl rfl))).less (show W.heap.size+1<=_ by omega);have h3:=(Kia ml.own).less (show W.heap.size+1<=_ by omega);have h4:=h1.and (h2.and h3)
    repeat (first|with_reducible exact h4|refine Kdv ?_ (by omega) _ _)
   ·repeat (first|with_reducible exact hp8|with_reducible refine X2.beyond ?_ (by omega) _ _)
   ·have hkZ:=hkXa.trans dx fun k hk hs=>hs.resolve_right (by omega)
    repeat (first|with_reducible exact hkZ|with_reducible refine J6.fresh ?_ (by omega) _ _)
theorem Kne {B:Nat} {ts:List Tk} {A:Option Addr} {cap:Nat} {W:World} (h:X2 B ts A cap W ⟨0,false⟩) (ai:ts.length<=100000) :
  Calls Tryz.prog 17 #[.pointer (some ⟨B,0,none⟩)] W (Kjo B ts A cap W (Kew ts)):=by
 have bg:=fun W' (h':X2 B ts A cap W' ⟨0,false⟩)=>Koc h' ⟨#[110,111,100,101]⟩ ai;unfold Kew;generalize Kda ts ⟨0,false⟩ ⟨#[110,111,100,101]⟩=sA at bg ⊢;have aL:=fun W' (h':X2 B ts A cap W' sA)=>Kfd h' ai;generalize Kdn ts sA=N at aL ⊢;obtain⟨nm,sB⟩:=N;dsimp only at aL ⊢;have js:=fun W' (h':X2 B ts A cap W' sB)=>Jm4 h' ai;generalize Ker ts sB=D1 at js ⊢;obtain⟨ins,sC⟩:=D1;dsimp only;have sR:=fun W' (h':X2 B ts A cap W' sC)=>Koc h' ⟨#[114,101,116,117,114,110,115]⟩ ai;generalize Kda ts sC ⟨#[114,101,116,117,114,110,115]⟩=sD at sR ⊢;have gN:=fun W' (h':X2 B ts A cap W' sD)=>Jm4 h' ai;generalize Ker ts sD=D2 at gN ⊢;obtain⟨outs,sE⟩:=D2;dsimp only;have hn5:=fun W' (h':X2 B ts A cap W' sE)=>Koc h' ⟨#[59]⟩ ai;generalize Kda ts sE ⟨#[59]⟩=sF at hn5 ⊢
 cases hs:Kc5 ts sF ⟨#[118,97,114]⟩
 ·rw [if_neg (by simp)];exact Kl4 h ai bg aL js sR gN hn5 hs
 ·rw [if_pos rfl,Kdu hs];exact Knm h ai bg aL js sR gN hn5 hs
theorem J6.thenB {S:Nat->Prop} {W W1 W2:World} (h:J6 S W W1) (hb:Below W1.heap.size W1 W2):J6 S W W2:=h.trans' (J6.bel hb)
abbrev Ls:=List ((Option Addr×Nat)×(Option Addr×Nat))
structure Kf6 (B g:Nat) (ts:List Tk) (A:Option Addr) (cap:Nat) (WL w:World) (nm:ByteArray) (i1 i2 i3:Value) (l:List Qe) (ls:Ls) (Al:Option Addr) (cl:Nat) (st:St):Prop where
 ps:X2 B ts A cap w st
 kept:J6 (fun k=>k=B\/k=g) WL w
 own:w.ownsRow WL.heap.size 75 10 (.slice Al l.length cl) l.length (Jed l ls)
 ll:ls.length=l.length
 subs:Jc4 WL.heap.size (.slice Al l.length cl) w l ls
 c0:w.cell? ⟨g,0,none⟩=some (.string nm)
 c1:w.cell? ⟨g,1,none⟩=some i1
 c2:w.cell? ⟨g,2,none⟩=some i2
 c3:w.cell? ⟨g,3,none⟩=some i3
 c4:w.cell? ⟨g,4,none⟩=some (.slice Al l.length cl)
 fg:∀o,w.frozen? ⟨g,o,none⟩=false
 Bg:B<g
 gL:g<WL.heap.size
section
variable {B g:Nat} {ts:List Tk} {A:Option Addr} {cap:Nat} {WL w w':World} {nm:ByteArray} {i1 i2 i3:Value} {l:List Qe} {ls:Ls} {Al:Option Addr} {cl:Nat} {st st':St}
theorem Kf6.lt (h:Kf6 B g ts A cap WL w nm i1 i2 i3 l ls Al cl st):g<w.heap.size:=Nat.lt_of_lt_of_le h.gL h.kept.size
theorem Kf6.on (h:Kf6 B g ts A cap WL w nm i1 i2 i3 l ls Al cl st) (hk:J6 (fun b=>b=B) w w') (hp:X2 B ts A cap w' st'):Kf6 B g ts A cap WL w' nm i1 i2 i3 l ls Al cl st':=by
 have vb:=h.Bg;have hgL:=h.gL;have hg:=h.lt;have ng:g≠B:=by omega
 exact⟨hp,h.kept.trans' (hk.weak fun k hk=> .inl hk),Khg h.own (by omega) hk,h.ll,fun j q a hq ha=>(h.subs j q a hq ha).grow (fun k h1 h2 _=>hk.block k h2 (by show ¬k=B;omega)) hk.size (.inl rfl),(K1 hk _ _ ng hg).trans h.c0,(K1 hk _ _ ng hg).trans h.c1,(K1 hk _ _ ng hg).trans h.c2,(K1 hk _ _ ng hg).trans h.c3,(K1 hk _ _ ng hg).trans h.c4,fun o=>(kfz hk _ _ ng hg).trans (h.fg o),vb,hgL⟩
theorem Kf6.mid (h:Kf6 B g ts A cap WL w nm i1 i2 i3 l ls Al cl st) (hg:w.grownBy w' (Value.slice Al l.length cl).ownBlock):w'.cell? ⟨g,4,none⟩=some (.slice Al l.length cl)/\w'.frozen? ⟨g,4,none⟩=false:=by
 have hgL:=h.gL;have hb:w'.heap[g]?=w.heap[g]?:=hg.block g h.lt fun he=>by have:=(h.own.lt g he.symm).1;omega
 exact⟨Jr hb h.c4,(World.frozen?_of_block hb).trans (h.fg 4)⟩
theorem Jc4.longer {v:Value} {q:Qe} {base:Nat} (h:Jc4 base v w l ls) (hl:ls.length=l.length):Jc4 base v w (l ++ [q]) ls:=fun j x a hx ha=>by
 have hj:j<l.length:=by have:=(List.getElem?_eq_some_iff.1 ha).1;omega
 rw [List.getElem?_append_left hj] at hx;exact h j x a hx ha
theorem Kf6.app {A6:Option Addr} {c6 m:Nat} {q:Qe} {a:(Option Addr×Nat)×(Option Addr×Nat)} (h:Kf6 B g ts A cap WL w nm i1 i2 i3 l ls Al cl st) (hm:WL.heap.size<=m)
  (hq:Off m none w (fun V=>Jt V q.first a.1.1 a.1.2/\Jt V q.e a.2.1 a.2.2)) (xo:∀b,(Value.slice Al l.length cl).ownBlock=some b->b<m)
  (ho:w'.ownsRow WL.heap.size 75 10 (.slice A6 (l.length+1) c6) (l.length+1) (Jed l ls ++ eqC q a)) (hg:w.grownBy w' (Value.slice Al l.length cl).ownBlock)
  (hv:(Value.slice A6 (l.length+1) c6).ownBlock=(Value.slice Al l.length cl).ownBlock\/∀k,(Value.slice A6 (l.length+1) c6).ownBlock=some k->w.heap.size<=k) :
  Kf6 B g ts A cap WL (w'.setCell ⟨g,4,none⟩ (.slice A6 (l.length+1) c6)) nm i1 i2 i3 (l ++ [q]) (ls ++ [a]) A6 c6 st:=by
 have vb:=h.Bg;have hgL:=h.gL;have am:=h.lt;have hwL:=h.kept.size;have hb:∀b,b<WL.heap.size->w'.heap[b]?=w.heap[b]?:=fun b hb=>hg.block b (Nat.lt_of_lt_of_le hb hwL) fun he=>by have:=(h.own.lt b he.symm).1;omega
 have ev:∀o v,w.cell? ⟨g,o,none⟩=some v->w'.cell? ⟨g,o,none⟩=some v:=fun o v hv=>Jr (hb g hgL) hv;have aS:∀o v,o≠4->w.cell? ⟨g,o,none⟩=some v->(w'.setCell ⟨g,4,none⟩ (.slice A6 (l.length+1) c6)).cell? ⟨g,o,none⟩=some v:=fun o v ho hv=>(J5 _ _ _ _ _ ho).trans (ev o v hv);have ai:(l ++ [q]).length=l.length+1:=by simp
 have bW:∀b,WL.heap.size<=b->(w'.setCell ⟨g,4,none⟩ (.slice A6 (l.length+1) c6)).heap[b]?=w'.heap[b]?:=fun b hb=>heap_setCell_other _ _ _ _ (by show b≠g;omega);refine⟨(h.ps.app h.own (by omega) hg).beyond vb _ _,?_,?_,by simp [h.ll],?_,aS _ _ (by decide) h.c0,aS _ _ (by decide) h.c1,aS _ _ (by decide) h.c2,aS _ _ (by decide) h.c3,?_,fun o=>?_,vb,hgL⟩
 ·have h1:J6 (fun k=>k=B\/k=g) WL w':=h.kept.trans (J6.grown (S:=fun k=>(Value.slice Al l.length cl).ownBlock=some k) hg fun k hk=>hk) fun k hk hs=>by have:=(h.own.lt k hs).1;omega
  exact h1.setCell (b:=g) (.inr rfl) _ _
 ·rw [ai,Jmw _ _ _ _ h.ll];exact Jbd ho (z:=g) (by omega) 4 (.slice A6 (l.length+1) c6)
 ·rw [ai];intro j x c hx hc
  rcases Nat.lt_or_ge j ls.length with hj|hj
  ·rw [List.getElem?_append_left hj] at hc;rw [List.getElem?_append_left (by have:=h.ll;omega)] at hx;refine(h.subs j x c hx hc).grow (fun b h1 h2 h3=>(bW b h1).trans (hg.block b h2 h3)) (by have:=hg.size;simpa using this) ?_
   rcases hv with hv|hv
   ·exact .inl hv
   ·exact .inr hv
  ·obtain rfl:j=ls.length:=by
    have:=(List.getElem?_eq_some_iff.1 hc).1;simp at this;omega
   rw [List.getElem?_append_right (Nat.le_refl _)] at hc;simp at hc;subst hc;rw [h.ll,List.getElem?_append_right (Nat.le_refl _)] at hx;simp at hx;subst hx;refine hq.fresh hm (fun b h1 h2=>(bW b (by omega)).trans (hg.block b h2 fun he=>?_)) (by have:=hg.size;simpa using this) fun k hk=>?_
   ·have:=xo b he.symm;omega
   ·rcases hv with hv|hv
    ·rw [hv] at hk;exact .inl (xo k hk)
    ·exact .inr (hv k hk)
 ·rw [ai];exact World.cell?_setCell_same _ _ _ (ev _ _ h.c4)
 ·rw [World.frozen?_setCell,World.frozen?_of_block (hb g hgL)];exact h.fg o
end
def Khe (W:World) (x:Pr×Int×Int) (r:Ending) (W':World):Prop:=(∃a,r = .returned (.tuple #[prV x.1 a,.int .i64 x.2.1,.int .i64 x.2.2])/\Kr W' x.1 a)/\Below W.heap.size W W'
theorem Khw (W:World):Kr W prZ ⟨none,0,none,0,none,0,none,0⟩:=
 ⟨⟨Nat.le_refl _,Nat.zero_le _,fun h=>absurd h (by simp [prZ])⟩,⟨Nat.le_refl _,Nat.zero_le _,fun h=>absurd h (by simp [prZ])⟩,⟨Nat.le_refl _,Nat.zero_le _,fun h=>absurd h (by simp [prZ])⟩,⟨Nat.le_refl _,Nat.zero_le _,fun h=>absurd h (by simp [prZ])⟩⟩
theorem Kk5 (s:ByteArray) (W:World) (hs:s.size<=maxLen) (h0:(Kdk s).2.1≠0):Calls Tryz.prog 7 #[.string s] W (Khe W (prZ,(Kdk s).2.1,(Kdk s).2.2)):=by
 have pZ:=fun w=>Kjz s w hs;generalize Kdk s=S at pZ h0 ⊢;obtain⟨ts,e,at0⟩:=S;unfold Kll at pZ;dsimp only at pZ h0 ⊢;have he:(e != 0)=true:=by simpa using h0
 clear h0
 go_enter Tryz.func7,Tryz.ntmps7
 go_wp2_with (go_at_call 16;go_loud (refine(pZ _).mono ?_;rintro r w1 ⟨⟨Al,cl,rfl,aP⟩,ac⟩;have ak:=Jg ac;have db:=Jf ac;have af:=ac.size;(try simp at af);have bV:W.heap.size<w1.heap.size:=(by omega)))
 refine bodyPost_ret (v:= .tuple #[prV prZ ⟨none,0,none,0,none,0,none,0⟩,.int .i64 e,.int .i64 at0]) (by simp [results,Tryz.results7,go_sem,prV,prZ, *]) rfl ⟨⟨_,rfl,Khw _⟩,?_⟩;exact Jdj _ _ _ _ _ (Jd (Jc (Below.refl _ _) _) ac) (Nat.le_refl _)
theorem Kn5 {w1:World} {ts:List Tk} {Al:Option Addr} {cl:Nat} (t:TypeId) (h:Kg5 w1.heap.size w1 ts Al cl):X2 w1.heap.size ts Al cl (w1.alloc (.cells #[.slice Al ts.length cl,.int .i64 0,.bool false] t)) ⟨0,false⟩:=
 ⟨by rw [Kw];rfl,by rw [Kw];rfl,by rw [Kw];rfl,by go_simp,by go_simp,by go_simp,Kgw h _ (J6.bel (Jc (Below.refl _ _) _)),Nat.zero_le _⟩
theorem Knv (ts:List Tk):(Kew ts).1.eqs = []:=by unfold Kew;dsimp only;split <;> rfl
theorem Kk9 (s:ByteArray) (W:World) (hs:s.size<=maxLen) {ts:List Tk} {at0:Int} (hS:Kdk s=(ts,0,at0)) (ai:ts.length<=100000) {p0:Pr} {stH:St} (hH:Kew ts=(p0,stH)) (pp:p0.eqs = []) :
  Calls Tryz.prog 7 #[.string s] W (Khe W (if (Kd8 ts s.size (ts.length+1) [] stH).2.1≠0 then(prZ,(Kd8 ts s.size (ts.length+1) [] stH).2.1,(Kd8 ts s.size (ts.length+1) [] stH).2.2.1)
   else if (Kd8 ts s.size (ts.length+1) [] stH).2.2.2.bad=true\/(Kd8 ts s.size (ts.length+1) [] stH).2.2.2.pos<ts.length then(prZ,16,Ke6 ts (Kd8 ts s.size (ts.length+1) [] stH).2.2.2.pos s.size) else({p0 with eqs:=(Kd8 ts s.size (ts.length+1) [] stH).1},0,0))):=by
 have pZ:=fun w=>Kjz s w hs;rw [hS] at pZ;clear hS;unfold Kll at pZ;dsimp only at pZ;unfold maxLen at hs;obtain⟨nm,ins,outs,locs,eqs0⟩:=p0;obtain rfl:eqs0 = []:=pp;obtain⟨R,hR⟩:∃R,R=Kd8 ts s.size (ts.length+1) [] stH:=⟨_,rfl⟩;rw [<-hR];have vi:=Lib.hid hR;clear hR;obtain⟨X,hX⟩:∃X:Pr×Int×Int,X=if R.2.1≠0 then(prZ,R.2.1,R.2.2.1) else if R.2.2.2.bad=true\/R.2.2.2.pos<ts.length then(prZ,16,Ke6 ts R.2.2.2.pos s.size) else({(⟨nm,ins,outs,locs,[]⟩:Pr) with eqs:=R.1},0,0):=⟨_,rfl⟩;rw [<-hX];have HX:=Lib.hid hX;clear hX;have hhd:=fun {B:Nat} {A:Option Addr} {cap:Nat} {w:World} (h:X2 B ts A cap w ⟨0,false⟩)=>Kne h ai;rw [hH] at hhd;unfold Kjo at hhd;dsimp only at hhd;clear hH
 go_enter Tryz.func7,Tryz.ntmps7
 go_wp2_with (first
  | (go_at_call 16;go_loud (refine(pZ _).mono ?_;rintro r w1 ⟨⟨Al,cl,rfl,aP⟩,ac⟩;have ak:=Jg ac;have db:=Jf ac;have af:=ac.size;(try simp at af);have bV:W.heap.size<w1.heap.size:=(by omega)))
  | (go_at_call 17;go_loud (refine(hhd (Kn5 _ aP)).mono ?_;rintro r w2 ⟨⟨A1,c1,A2,c2,A3,c3,rfl,jf⟩,gL,dz⟩;have dm:=K1 dz;have gO:=kfz dz;have br:=dz.size;(try simp at br);have gq:W.heap.size<w2.heap.size:=(by omega);have cF:w1.heap.size<w2.heap.size:=(by omega);have aS:W.heap.size≠w1.heap.size:=(by omega);have z0:w2.cell? ⟨W.heap.size,0,none⟩=some (.string ⟨#[]⟩):=(dm _ _ (by omega) (by simp <;> omega)).trans (by go_simp);have z1:w2.cell? ⟨W.heap.size,1,none⟩=some (.slice none 0 0):=(dm _ _ (by omega) (by simp <;> omega)).trans (by go_simp);have z2:w2.cell? ⟨W.heap.size,2,none⟩=some (.slice none 0 0):=(dm _ _ (by omega) (by simp <;> omega)).trans (by go_simp);have z3:w2.cell? ⟨W.heap.size,3,none⟩=some (.slice none 0 0):=(dm _ _ (by omega) (by simp <;> omega)).trans (by go_simp);have z4:w2.cell? ⟨W.heap.size,4,none⟩=some (.slice none 0 0):=(dm _ _ (by omega) (by simp <;> omega)).trans (by go_simp);have zf:∀o,w2.frozen? ⟨W.heap.size,o,none⟩=false:=fun o=>(gO _ _ (by omega) (by simp <;> omega)).trans (by go_simp))))
 have iY:Below W.heap.size W w2:=J6.below (Jc (Jd (Jc (Below.refl _ _) _) ac) _) dz fun k hk=>by show ¬k=w1.heap.size;omega
 refine Jo fun WL hWL=>?_;have hzL:WL.heap.size=w2.heap.size+1:=by rw [hWL];simp
 have hbL:Below w2.heap.size w2 WL:=by rw [hWL];exact Jc (Below.refl _ _) _
 have hpa:Kf6 w1.heap.size w2.heap.size ts Al cl WL WL nm (.slice A1 ins.length c1) (.slice A2 outs.length c2) (.slice A3 locs.length c3) [] [] none 0 stH:=by
  refine⟨gL.later hbL,J6.refl _,World.ownsRow_nil _ _ _ _,rfl,fun j q a hq _=>absurd hq (by simp),?_,?_,?_,?_,?_,fun o=>?_,cF,by omega⟩ <;> rw [hWL] <;> go_simp
 clear hWL;have y0:=Ja hbL z0;have y1:=Ja hbL z1;have y2:=Ja hbL z2;have y3:=Ja hbL z3;have y4:=Ja hbL z4;have yf:∀o,WL.frozen? ⟨W.heap.size,o,none⟩=false:=fun o=>(Jf hbL _ _ gq).trans (zf o);have dZ:Below W.heap.size W WL:=Jd iY hbL;have hyL:W.heap.size<WL.heap.size:=by omega
 have kx:¬(W.heap.size=w1.heap.size\/W.heap.size=w2.heap.size):=by omega
 clear z0 z1 z2 z3 z4 zf ak db dm gO pZ hhd iY
 go_loopg [] (ts.length+1) (fun k wr=>∃l st' ls A6 c6,ts.length-st'.pos<k/\l.length+(ts.length-st'.pos)<=ts.length/\Kd8 ts s.size k l st'=R/\Kf6 w1.heap.size w2.heap.size ts Al cl WL wr nm (.slice A1 ins.length c1) (.slice A2 outs.length c2) (.slice A3 locs.length c3) l ls A6 c6 st')
 case atStart=>exact⟨[],stH,[],none,0,by omega,by simp,vi.out.symm,hpa⟩
 case round=>
  obtain⟨l,st',ls,A6,c6,hm,cY,aa,aY⟩:=hrel;clear hpa;obtain⟨k,rfl⟩:∃k,gk=k+1:=⟨gk-1,by omega⟩;rw [Kd8] at aa;have wu:=aY.ps;have hle':=wu.le;have b2:=wu.c2;have hBw:=wu.lt
  cases hb:st'.bad
  ·rw [hb,if_neg (by simp)] at aa;rw [hb] at b2
   cases ht:Kc5 ts st' ⟨#[116,101,108]⟩
   ·rw [ht,if_neg (by simp)] at aa;have hwh0:=Kfy wu (s.size:Int);have dn:=fun w' (h:X2 w1.heap.size ts Al cl w' st')=>Koh h ai;have hmv:=Kiz ts st';generalize Kdt ts st'=Q at dn hmv aa;obtain⟨q,stQ⟩:=Q;obtain⟨hmv1,hmv2⟩:=hmv;have hmv3:=hmv2.2 hle';unfold EqP qeV at dn;dsimp only at dn hmv1 hmv3 aa
    cases aq:stQ.bad
    ·rw [aq,if_neg (by simp)] at aa
     have hmv4:st'.pos<stQ.pos:=by
      rcases hmv1 with h|h
      ·rw [aq] at h;simp at h
      ·exact h
     have aB:=fun A c w h=>Jnc q.e A c w h;unfold exV at aB
     by_cases hr:q.e.right=0
     ·rw [if_neg (by simpa using hr)] at aa;have hri:(q.e.right != 0)=false:=by simpa using hr
      have HR:=Lib.hid aa;clear aa hr;have hWr:=aY.kept.size
      go_wp2_with (first
       | (go_at_call 18;go_loud (refine(Kdf wu ht ai).mono ?_;rintro r w3 ⟨rfl,ip,dU⟩))
       | (go_at_call_of 19 (Value.pointer (some ⟨w1.heap.size,0,none⟩));go_loud (refine(Kfy ip (s.size:Int)).mono ?_;rintro r w4 ⟨rfl,ei⟩))
       | (go_at_call 20;go_loud (refine(dn _ (ip.later ei)).mono ?_;rintro r w5 ⟨⟨E1,n1,E2,n2,rfl,hoq⟩,dv,bb⟩;have py:=dU.trans' ((J6.bel (S:=fun b=>b=w1.heap.size) ei).trans' bb);have yx:=py.size;have b5:=dv.c2;rw [aq] at b5;have yy:=dv.lt))
       | (go_at_call 21;go_loud (refine(aB _ _ _ (hoq.here.2.later (Jc (Below.refl _ _) _))).mono ?_;rintro r w6 ⟨rfl,yM⟩;have hz6:=yM.size;(try simp at hz6);have hc6:=Jg yM;have hatX:=((aY.on py dv).on ((((J6.refl w5).alloc _).thenB yM).alloc (.cells #[.string q.name,.int .i64 q.delay,.int .i64 q.first.kind,.int .i32 q.first.n,.string q.first.name,.slice E1 q.first.sub.length n1,.int .i64 q.e.kind,.int .i32 q.e.n,.string q.e.name,.slice E2 q.e.sub.length n2] 75)) (((dv.alloc _).later yM).alloc _));have u4:=((aY.on py dv).on (((J6.refl w5).alloc _).thenB yM) ((dv.alloc _).later yM)).c4;have u5:=(aY.on py dv).c4;have hw45:wr.heap.size<=w4.heap.size:=Nat.le_trans dU.size ei.size;have hgX:=hatX.lt;have hgY:=(aY.on py dv).lt;have hWX:=(aY.on py dv).kept.size))
       | (at_builtin;go_loud (refine Z2 rfl (.tmp 65) (.tmp 67) 36 rfl WL.heap.size 75 _ 10 136 Tryz.underlying36 Jzq rfl (by omega) (.slice A6 l.length c6) l.length (Jed l ls) w6.heap.size 1 1 (eqC q ((E1,n1),(E2,n2))) rfl hatX.own rfl rfl (fun j u hj=>by rw [Kw];simpa [eqC] using hj) (by simp [eqC,Value.oneCell']) (by omega) (by omega) (by simp <;> omega) ?_;intro v7 w7 my hg7 hv7;obtain⟨A7,n7,rfl,-,-⟩:=Jv my;obtain⟨m4,mf⟩:=hatX.mid hg7)))
      have hat7:=hatX.app (m:=wr.heap.size) hWr (Off.later (Off.later (Off.later (hoq.less hw45) (Jc (Below.refl _ _) _)) yM) (Jc (Below.refl _ _) _)) (fun b hb=>(aY.own.lt b hb).2) my hg7 hv7
      go_roundg k
      case measure=>omega
      case rel=>exact⟨l ++ [q],stQ,ls ++ [((E1,n1),(E2,n2))],A7,n7,by omega,by simp;omega,HR.out,hat7⟩
     ·rw [if_pos hr] at aa;have hri:(q.e.right != 0)=true:=by simpa using hr
      have hx:=HX.out;rw [<-aa] at hx;dsimp only at hx;rw [if_pos hr] at hx;have HX2:=Lib.hid hx;clear hx HX aa hr
      go_wp2_with (first
       | (go_at_call 18;go_loud (refine(Kdf wu ht ai).mono ?_;rintro r w3 ⟨rfl,ip,dU⟩))
       | (go_at_call_of 19 (Value.pointer (some ⟨w1.heap.size,0,none⟩));go_loud (refine(Kfy ip (s.size:Int)).mono ?_;rintro r w4 ⟨rfl,ei⟩))
       | (go_at_call 20;go_loud (refine(dn _ (ip.later ei)).mono ?_;rintro r w5 ⟨⟨E1,n1,E2,n2,rfl,hoq⟩,dv,bb⟩;have py:=dU.trans' ((J6.bel (S:=fun b=>b=w1.heap.size) ei).trans' bb);have yx:=py.size;have b5:=dv.c2;rw [aq] at b5;have yy:=dv.lt))
       | (go_at_call 21;go_loud (refine(aB _ _ _ (hoq.here.2.later (Jc (Below.refl _ _) _))).mono ?_;rintro r w8 ⟨rfl,hb8⟩;have fR:=((aY.on py dv).on (((J6.refl w5).alloc _).thenB hb8) ((dv.alloc _).later hb8)).kept;have x0:=fR.cell kx y0;have x1:=fR.cell kx y1;have x2:=fR.cell kx y2;have x3:=fR.cell kx y3;have x4:=fR.cell kx y4;have xf:∀o,w8.frozen? ⟨W.heap.size,o,none⟩=false:=fun o=>(World.frozen?_of_block (fR.block _ hyL kx)).trans (yf o))))
      refine bodyPost_ret (v:= .tuple #[prV prZ ⟨none,0,none,0,none,0,none,0⟩,.int .i64 q.e.right,.int .i64 (Ke6 ts st'.pos s.size)]) (by simp [results,Tryz.results7,go_sem,prV,prZ, *]) rfl ?_;rw [HX2.out];exact⟨⟨_,rfl,Khw _⟩,Jdj _ _ _ _ _ (J6.below dZ fR fun k hk=>by show ¬(k=w1.heap.size\/k=w2.heap.size);omega) (Nat.le_refl _)⟩
    ·rw [aq,if_pos rfl] at aa;have hx:=HX.out;rw [<-aa] at hx;simp only [ne_eq,not_true_eq_false,if_false,aq,true_or,if_true] at hx;have HX2:=Lib.hid hx;clear hx HX aa;have jn:=fun w' (h:X2 w1.heap.size ts Al cl w' stQ)=>Kfy h (s.size:Int);have hpq:X2 w1.heap.size ts Al cl wr st':=wu;clear hwh0
     go_wp2_with (first
      | (go_at_call 18;go_loud (refine(Kdf wu ht ai).mono ?_;rintro r w3 ⟨rfl,ip,dU⟩))
      | (go_at_call 20;go_loud (refine(dn _ (ip.later ei)).mono ?_;rintro r w5 ⟨⟨E1,n1,E2,n2,rfl,hoq⟩,dv,bb⟩;have py:=dU.trans' ((J6.bel (S:=fun b=>b=w1.heap.size) ei).trans' bb);have yx:=py.size;have b5:=dv.c2;rw [aq] at b5;have yy:=dv.lt;have hat5:=aY.on py dv))
      | (go_at_call 19;go_loud (refine(jn _ (dv.alloc _)).mono ?_;rintro r w8 ⟨rfl,hb8⟩;have fR:=(hat5.on (((J6.refl w5).alloc _).thenB hb8) ((dv.alloc _).later hb8)).kept;have x0:=fR.cell kx y0;have x1:=fR.cell kx y1;have x2:=fR.cell kx y2;have x3:=fR.cell kx y3;have x4:=fR.cell kx y4;have xf:∀o,w8.frozen? ⟨W.heap.size,o,none⟩=false:=fun o=>(World.frozen?_of_block (fR.block _ hyL kx)).trans (yf o)))
      | (go_at_call 19;go_loud (refine(Kfy ip (s.size:Int)).mono ?_;rintro r w4 ⟨rfl,ei⟩)))
     refine bodyPost_ret (v:= .tuple #[prV prZ ⟨none,0,none,0,none,0,none,0⟩,.int .i64 16,.int .i64 (Ke6 ts stQ.pos s.size)]) (by simp [results,Tryz.results7,go_sem,prV,prZ, *]) rfl ?_;rw [HX2.out];exact⟨⟨_,rfl,Khw _⟩,Jdj _ _ _ _ _ (J6.below dZ fR fun k hk=>by show ¬(k=w1.heap.size\/k=w2.heap.size);omega) (Nat.le_refl _)⟩
   ·rw [ht,if_pos rfl,Kdu ht] at aa;have am:=(Ket ht).1;have hx:=HX.out;rw [<-aa] at hx;simp only [ne_eq,not_true_eq_false,if_false,hb,Bool.false_eq_true,false_or] at hx
    by_cases hfull:st'.pos+1<ts.length
    ·rw [if_pos hfull] at hx;have d1:decide ((st'.pos:Int)+1<(ts.length:Int))=true:=by simp;omega
     have HX2:=Lib.hid hx;clear hx HX aa;have jn:=fun w' (h:X2 w1.heap.size ts Al cl w' ⟨st'.pos+1,st'.bad⟩)=>Kfy h (s.size:Int)
     go_wp2_with (go_at_call 18;go_loud (refine(Kdr wu ht ai).mono ?_;rintro r w3 ⟨rfl,ip,dU⟩;have e1:=ip.c1;dsimp only at e1;rw [show((st'.pos+1:Nat):Int)=(st'.pos:Int)+1 from by omega] at e1;have e2:=ip.c2;rw [hb] at e2;have kR:=aY.on dU ip))
     go_wp2_with (go_at_call 19;go_loud (refine(jn _ ip).mono ?_;rintro r w8 ⟨rfl,hb8⟩;have fR:=(kR.on (J6.bel hb8) (ip.later hb8)).kept;have x0:=fR.cell kx y0;have x1:=fR.cell kx y1;have x2:=fR.cell kx y2;have x3:=fR.cell kx y3;have x4:=fR.cell kx y4;have xf:∀o,w8.frozen? ⟨W.heap.size,o,none⟩=false:=fun o=>(World.frozen?_of_block (fR.block _ hyL kx)).trans (yf o)))
     refine bodyPost_ret (v:= .tuple #[prV prZ ⟨none,0,none,0,none,0,none,0⟩,.int .i64 16,.int .i64 (Ke6 ts (st'.pos+1) s.size)]) (by simp [results,Tryz.results7,go_sem,prV,prZ, *]) rfl ?_;rw [HX2.out];exact⟨⟨_,rfl,Khw _⟩,Jdj _ _ _ _ _ (J6.below dZ fR fun k hk=>by show ¬(k=w1.heap.size\/k=w2.heap.size);omega) (Nat.le_refl _)⟩
    ·rw [if_neg hfull] at hx;have d1:decide ((st'.pos:Int)+1<(ts.length:Int))=false:=by simp;omega
     have HX2:=Lib.hid hx;clear hx HX aa
     go_wp2_with (go_at_call 18;go_loud (refine(Kdr wu ht ai).mono ?_;rintro r w3 ⟨rfl,ip,dU⟩;have e1:=ip.c1;dsimp only at e1;rw [show((st'.pos+1:Nat):Int)=(st'.pos:Int)+1 from by omega] at e1;have e2:=ip.c2;rw [hb] at e2;have kR:=aY.on dU ip;have fR:=kR.kept;have x0:=fR.cell kx y0;have x1:=fR.cell kx y1;have x2:=fR.cell kx y2;have x3:=fR.cell kx y3;have x4:=fR.cell kx y4;have xf:∀o,w3.frozen? ⟨W.heap.size,o,none⟩=false:=fun o=>(World.frozen?_of_block (fR.block _ hyL kx)).trans (yf o);have v0:=kR.c0;have v1:=kR.c1;have v2:=kR.c2;have v3:=kR.c3;have v4:=kR.c4;have cZ:=kR.lt;have hB3a:=ip.lt))
     refine bodyPost_ret (v:= .tuple #[prV ⟨nm,ins,outs,locs,l⟩ ⟨A1,c1,A2,c2,A3,c3,A6,c6⟩,.int .i64 0,.int .i64 0]) (by simp [results,Tryz.results7,go_sem,prV, *]) rfl ?_;rw [HX2.out];have fe:=fR.size;have ul:Below W.heap.size W w3:=J6.below dZ fR fun k hk=>by show ¬(k=w1.heap.size\/k=w2.heap.size);omega
     have bF:∀k,w1.heap.size+1<=k->k<w2.heap.size->w3.heap[k]?=w2.heap[k]?:=fun k h1 h2=>(fR.block k (by omega) (by show ¬(k=w1.heap.size\/k=w2.heap.size);omega)).trans (hbL.block k h2)
     have cP:∀(V:World),(∀k,WL.heap.size<=k->V.heap[k]?=w3.heap[k]?)->(∀k,w1.heap.size+1<=k->k<w2.heap.size->V.heap[k]?=w3.heap[k]?)->Kr V ⟨nm,ins,outs,locs,l⟩ ⟨A1,c1,A2,c2,A3,c3,A6,c6⟩:=fun V dq bz=>by
      obtain⟨p1,p2,p3⟩:=jf V fun k h1 h2 _=>(bz k (by simpa using h1) h2).trans (bF k (by simpa using h1) h2);obtain⟨A',c',he,hoe⟩:=Jap.of_own kR.own kR.ll kR.subs;injection he with e1 e2 e3;subst e1 e3;exact⟨p1,p2,p3,hoe V fun k h1 _ _=>dq k h1⟩
     refine⟨⟨_,rfl,cP _ (fun k h1=>?_) (fun k h1 h2=>?_)⟩,Jdj _ _ _ _ _ ul (Nat.le_refl _)⟩
     ·have aS:k≠W.heap.size:=by omega
      rw [heap_setCell_other _ _ _ _ aS,heap_setCell_other _ _ _ _ aS,heap_setCell_other _ _ _ _ aS,heap_setCell_other _ _ _ _ aS,heap_setCell_other _ _ _ _ aS]
     ·have aS:k≠W.heap.size:=by omega
      rw [heap_setCell_other _ _ _ _ aS,heap_setCell_other _ _ _ _ aS,heap_setCell_other _ _ _ _ aS,heap_setCell_other _ _ _ _ aS,heap_setCell_other _ _ _ _ aS]
  ·rw [hb,if_pos rfl] at aa;rw [hb] at b2;have jn:=fun w' (h:X2 w1.heap.size ts Al cl w' st')=>Kfy h (s.size:Int);have hx:=HX.out;rw [<-aa] at hx;simp only [ne_eq,not_true_eq_false,if_false,hb,true_or,if_true] at hx;have HX2:=Lib.hid hx;clear hx HX aa
   go_wp2_with (go_at_call 19;go_loud (refine(jn _ wu).mono ?_;rintro r w8 ⟨rfl,hb8⟩;have fR:=(aY.on (J6.bel hb8) (wu.later hb8)).kept;have x0:=fR.cell kx y0;have x1:=fR.cell kx y1;have x2:=fR.cell kx y2;have x3:=fR.cell kx y3;have x4:=fR.cell kx y4;have xf:∀o,w8.frozen? ⟨W.heap.size,o,none⟩=false:=fun o=>(World.frozen?_of_block (fR.block _ hyL kx)).trans (yf o)))
   refine bodyPost_ret (v:= .tuple #[prV prZ ⟨none,0,none,0,none,0,none,0⟩,.int .i64 16,.int .i64 (Ke6 ts st'.pos s.size)]) (by simp [results,Tryz.results7,go_sem,prV,prZ, *]) rfl ?_;rw [HX2.out];exact⟨⟨_,rfl,Khw _⟩,Jdj _ _ _ _ _ (J6.below dZ fR fun k hk=>by show ¬(k=w1.heap.size\/k=w2.heap.size);omega) (Nat.le_refl _)⟩
theorem Kip (size:Nat):∀f left out,(Key size f left out).1.length<=out.length+f
 | 0,_,_=>by unfold Key;exact Nat.le_refl _
 | f+1,left,out=>by
  rw [Key]
  split
  ·simp
  ·split
   ·exact Nat.le_trans (Kip size f _ _) (by simp <;> omega)
   ·simp
theorem Knk (s:ByteArray):(Kdk s).1.length<=4097:=by
 unfold Kdk
 split
 ·simp
 ·have:=Kip s.size (s.size+1) (Kfi s) [];simp only [List.length_nil] at this;omega
theorem Khm (s:ByteArray) (W:World) (hs:s.size<=maxLen):Calls Tryz.prog 7 #[.string s] W (Khe W (Kdm s)):=by
 by_cases h0:(Kdk s).2.1=0
 ·have hl:=Knk s;have he:=Knv (Kdk s).1;obtain⟨S,hS⟩:∃S,S=Kdk s:=⟨_,rfl⟩;obtain⟨H,hH⟩:∃H,H=Kew (Kdk s).1:=⟨_,rfl⟩;have hm:=fun at0 (h:Kdk s=((Kdk s).1,0,at0))=>Kk9 s W hs (at0:=at0) h (by omega) (p0:=H.1) (stH:=H.2) hH.symm (by rw [hH];exact he)
  have hv:Kdm s=(if (Kd8 (Kdk s).1 s.size ((Kdk s).1.length+1) [] H.2).2.1≠0 then(prZ,(Kd8 (Kdk s).1 s.size ((Kdk s).1.length+1) [] H.2).2.1,(Kd8 (Kdk s).1 s.size ((Kdk s).1.length+1) [] H.2).2.2.1)
   else if (Kd8 (Kdk s).1 s.size ((Kdk s).1.length+1) [] H.2).2.2.2.bad=true\/(Kd8 (Kdk s).1 s.size ((Kdk s).1.length+1) [] H.2).2.2.2.pos<(Kdk s).1.length then(prZ,16,Ke6 (Kdk s).1 (Kd8 (Kdk s).1 s.size ((Kdk s).1.length+1) [] H.2).2.2.2.pos s.size) else({H.1 with eqs:=(Kd8 (Kdk s).1 s.size ((Kdk s).1.length+1) [] H.2).1},0,0)):=by
   unfold Kdm;rw [if_neg (by simpa using h0),hH]
  rw [hv];refine hm (Kdk s).2.2 ?_;rw [<-hS] at h0 ⊢;obtain⟨ts,e,at0⟩:=S;dsimp only at h0 ⊢;rw [h0]
 ·have hv:Kdm s=(prZ,(Kdk s).2.1,(Kdk s).2.2):=by unfold Kdm;rw [if_pos h0]
  rw [hv];exact Kk5 s W hs h0
end Go.Proofs.YtdgjplldlfeolaaGreatDoor
