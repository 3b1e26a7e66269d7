/- Lemmas. -/
import Derived.Test.YtdgjplldlfeolaaGreatDoorMac
import Derived.Test.YtdgjplldlfeolaaGreatDoorY30
import Derived.Test.YtdgjplldlfeolaaGreatDoorY36
import Derived.Test.YtdgjplldlfeolaaGreatDoorY11
import Derived.Laws.BytesArg
import Derived.RegionTactic
import Derived.Deep.RegionLaw
import Derived.Deep.CutRange
set_option linter.unusedVariables false
set_option linter.unusedSimpArgs false
set_option maxRecDepth 100000
set_option maxHeartbeats 64000000
namespace Go.Proofs.YtdgjplldlfeolaaGreatDoor
open Go.RowKit Go.Sort
theorem Kr8:strOfNums [77,73,68,83]=(⟨#[77,73,68,83]⟩:ByteArray):=Ug
def Kqb:List Value:=[.int .u32 0,.int .u32 0,.int .i64 0,.int .i64 0,.int .i64 0,.int .i64 0,.int .i64 0,.int .i64 0,.slice none 0 0,.slice none 0 0,.slice none 0 0,.int .i64 0,.int .i64 0]
def Kts (m:Im):List Value:=[.int .u32 m.ver,.int .u32 m.fro,.int .i64 m.eld,.int .i64 m.fr.s,.int .i64 m.fr.n,.int .i64 m.fr.n,.int .i64 m.fr.i,.int .i64 m.fr.u,.slice none 0 0,.slice none 0 0,.slice none 0 0,.int .i64 m.sf,.int .i64 m.mf]
structure RmS (w W:World) (X gb ga gk:Nat) (l:List Int) (A:Option Addr) (cap at_:Nat) (vs:List Value):Prop where
 rd:RdS W gb ga gk l A cap at_
 bel:Below w.heap.size w W
 cx:∀(j:Nat) (u:Value),vs[j]?=some u->W.cell? ⟨X,j,none⟩=some u
 fx:∀o,W.frozen? ⟨X,o,none⟩=false
 lx:X<W.heap.size
 ga0:w.heap.size+2<=ga
 X0:w.heap.size+2<=X
 sep:X≠gb/\X≠ga/\X≠gk
 sA:∀b off,A=some ⟨b,off,none⟩->b≠X
 cz:∀(j:Nat) (u:Value),Kqb[j]?=some u->W.cell? ⟨w.heap.size+1,j,none⟩=some u
 fz:∀o,W.frozen? ⟨w.heap.size+1,o,none⟩=false
section
variable {w W W':World} {X gb ga gk:Nat} {l:List Int} {A:Option Addr} {cap at_:Nat} {vs:List Value}
theorem RmS.cast (h:RmS w W X gb ga gk l A cap at_ vs) (e:W'=W):RmS w W' X gb ga gk l A cap at_ vs:=e ▸ h
theorem RmS.store (h:RmS w W X gb ga gk l A cap at_ vs) (o:Nat) (v:Value):RmS w (W.setCell ⟨X,o,none⟩ v) X gb ga gk l A cap at_ (vs.set o v):=by
 have oz:=h.X0;refine⟨h.rd.aside h.sep h.sA v,Below.setCell h.bel (show w.heap.size<=X by omega) _,fun j u hj=>?_,fun o'=>(World.frozen?_setCell ..).trans (h.fx o'),by simpa using h.lx,h.ga0,oz,h.sep,h.sA,fun j u hj=>(Qm _ _ _ _ _ _ Ua).trans (h.cz j u hj),fun o'=>(World.frozen?_setCell ..).trans (h.fz o')⟩
 by_cases hjo:j=o
 ·subst hjo;have am:j<vs.length:=by have:=(Nh hj).1;simpa using this
  rw [List.getElem?_set_self am] at hj;injection hj with hj;subst hj;exact Nx _ _ _ (h.cx j _ (Ng am))
 ·rw [List.getElem?_set_ne Ua] at hj;exact(J5 _ _ _ _ _ hjo).trans (h.cx j u hj)
theorem RmS.move (h:RmS w W X gb ga gk l A cap at_ vs) (n:Nat):RmS w (W.setCell ⟨ga,0,none⟩ (.int .i64 n)) X gb ga gk l A cap n vs:=by
 have hg:=h.ga0;have hs:=h.sep;exact⟨h.rd.move n,Below.setCell h.bel (show w.heap.size<=ga by omega) _,fun j u hj=>(Qm _ _ _ _ _ _ hs.2.1).trans (h.cx j u hj),fun o'=>(World.frozen?_setCell ..).trans (h.fx o'),by simpa using h.lx,hg,h.X0,hs,h.sA,fun j u hj=>(Qm _ _ _ _ _ _ Ua).trans (h.cz j u hj),fun o'=>(World.frozen?_setCell ..).trans (h.fz o')⟩
theorem RmS.later (h:RmS w W X gb ga gk l A cap at_ vs) (hb:Below W.heap.size W W'):RmS w W' X gb ga gk l A cap at_ vs:=by
 have hz:=Nu (h.cz 0 _ rfl);exact⟨h.rd.later hb,Jd h.bel hb,fun j u hj=>Ja hb (h.cx j u hj),fun o=>(Jf hb _ _ h.lx).trans (h.fx o),Nr h.lx hb.size,h.ga0,h.X0,h.sep,h.sA,fun j u hj=>Ja hb (h.cz j u hj),fun o=>(Jf hb _ _ hz).trans (h.fz o)⟩
end
theorem RmS.of_kept {w W W':World} {X gb ga gk:Nat} {l:List Int} {A:Option Addr} {cap at_:Nat} {vs vs':List Value} (h:RmS w W X gb ga gk l A cap at_ vs) (hk:J6 (fun b=>b=X) W W') (xU:∀(j:Nat) (u:Value),vs'[j]?=some u->W'.cell? ⟨X,j,none⟩=some u) (ew:∀o,W'.frozen? ⟨X,o,none⟩=false):RmS w W' X gb ga gk l A cap at_ vs':=by
 have oz:=h.X0;have hs:=h.sep;obtain⟨l1,l2,l3⟩:=h.rd.lt;have hz:=Nu (h.cz 0 _ rfl);have fr:∀b o,b<W.heap.size->b≠X->W'.frozen? ⟨b,o,none⟩=W.frozen? ⟨b,o,none⟩:=fun b o h1 h2=>World.frozen?_of_block (a:=⟨b,o,none⟩) (hk.block b h1 h2);refine⟨⟨hk.cell (Ne.symm hs.1) h.rd.cb,hk.cell (Ne.symm hs.2.1) h.rd.ca,hk.cell (Ne.symm hs.2.2) h.rd.ck,(fr _ _ l2 (Ne.symm hs.2.1)).trans h.rd.fa,(fr _ _ l3 (Ne.symm hs.2.2)).trans h.rd.fk,⟨h.rd.row.1,h.rd.row.2.1,h.rd.row.2.2.1,fun h0=>?_⟩,h.rd.bA,h.rd.n1,h.rd.n2⟩,J6.below h.bel hk fun k hk'=>by show ¬k=X;omega,xU,ew,Nr h.lx hk.size,h.ga0,oz,hs,h.sA,fun j u hj=>hk.cell (by show ¬w.heap.size+1=X;omega) (h.cz j u hj),fun o=>(fr _ _ hz (by show w.heap.size+1≠X;omega)).trans (h.fz o)⟩;obtain⟨b,off,hb,hc⟩:=h.rd.row.2.2.2 h0;exact⟨b,off,hb,fun j u hj=>hk.cell (h.sA b off hb) (hc j u hj)⟩
theorem Ko6 {W:World} {gb ga gk:Nat} {l:List Int} {A:Option Addr} {cap at_:Nat} (h:RdS W gb ga gk l A cap at_) (hl:l.length<=100000) (aw:Kow l) (wd nx:Nat) (wdI x:Int) (hwd:wdI=(wd:Int)) (h1:1<=wd) (h4:wd<=4) (hw:at_+wd<=l.length) (qU:at_+wd=nx) (hv:leN (Kor l at_ wd)=x.toNat) (hx:0<=x) :
  Calls Tryz.prog 65 #[.int .i64 wdI,.pointer (some ⟨gb,0,none⟩),.pointer (some ⟨ga,0,none⟩),.pointer (some ⟨gk,0,none⟩)] W fun r w'=>r = .returned (.int .i64 x)/\w'=W.setCell ⟨ga,0,none⟩ (.int .i64 nx):=by
 subst hwd qU;have:=Ksr h hl aw wd h1 h4 hw
 rwa [hv,Int.toNat_of_nonneg hx] at this
def Ktp (W:World) (ga nx:Nat) (xs:List Int) (r:Ending) (w':World):Prop:=
 ∃v w1,r = .returned v/\w1.ownsRow W.heap.size 5 1 v xs.length (byU xs)/\Below W.heap.size W w1/\w'=w1.setCell ⟨ga,0,none⟩ (.int .i64 nx)
theorem Kp1 {W:World} {gb ga gk:Nat} {l:List Int} {A:Option Addr} {cap at_:Nat} (h:RdS W gb ga gk l A cap at_) (hl:l.length<=100000) (aw:Kow l) (fr nx:Nat) (xs:List Int) (hn:leN (Kor l at_ 2)=xs.length) (uf:at_+2=fr) (qU:fr+xs.length=nx) (nn:nx<=l.length) (sd:Kor l fr xs.length=xs) :
  Calls Tryz.prog 67 #[.pointer (some ⟨gb,0,none⟩),.pointer (some ⟨ga,0,none⟩),.pointer (some ⟨gk,0,none⟩)] W (Ktp W ga nx xs):=by
 subst uf qU;have:=Kc1 h hl aw xs.length hn nn;unfold Ksn at this;rw [sd] at this;exact this
theorem Kpu {B n size z:Nat} {t:TypeId} {v:Value} {xs:List Value} (hz:z<B):∀(l:List Value) (o:Nat) (w:World),w.ownsRow B t size v n xs->(Koi w z o l).ownsRow B t size v n xs
 | [],_,_,h=>h
 | u :: l,o,w,h=>Kpu hz l (o+1) _ (Jbd h hz o u)
theorem Kqk {w:World} {base:Nat} {l:List (Int×Int)} {A:Option Addr} {cap:Nat} {t:TypeId} (h:w.ownsRow base t 2 (.slice A l.length cap) l.length (cdC l)):Kos w l A cap:=by
 obtain⟨A',c',hv,h1,h2⟩:=Jv h;injection hv with e1 e2 e3;subst e1 e3;refine⟨h1,h2,Jma l,fun hn=>?_⟩;obtain⟨g,c',hv,_,_,_,_,hc⟩:=Kc h hn;injection hv with e1 e2 e3;subst e1;exact⟨g,0,rfl,fun j u hj=>Mh⟩
theorem Kpw {fn:Func} {p q:Tmp} {t:TypeId} {tmps:Array Value} {P:Program} {w:World} {b:Nat} (h:fn.results = #[.cell p t,.tmp q]) (l:List Value)
  (hp:tmps.getD p undef = .pointer (some ⟨b,0,none⟩)) (ha:(isAgg t).run P w = .ok true w) (hs:(sizeOf t).run P w = .ok l.length w)
  (hc:∀(j:Nat) (v:Value),l[j]?=some v->w.cell? ⟨b,j,none⟩=some v) {v:Value} (hq:tmps.getD q undef=v) :
  (results fn tmps).run P w = .ok (.tuple #[.agg l.toArray,v]) w:=by
 have h1:=Kon l ha hs hc;have hp':tmps[p]?.getD undef = .pointer (some ⟨b,0,none⟩):=by simpa using hp
 have tt:tmps[q]?.getD undef=v:=by simpa using hq
 simp only [results,h];simp [Sem.run_bind,Result.andThen,hp',tt,asAddr,h1,Sem.run_pure]
theorem Ks6 {W:World} {gb:Nat} {l:List Int} {b off cap:Nat} (t t':TypeId) (hq:W.cell? ⟨gb,0,none⟩=some (.slice (some ⟨b,off,none⟩) l.length cap)) (hr:Qc W (byU l) l.length (some ⟨b,off,none⟩) cap) (h0:0<l.length) :
  RdS ((W.alloc (.cells #[.int .i64 4] t)).alloc (.cells #[.bool true] t')).drew gb W.heap.size (W.heap.size+1) l (some ⟨b,off,none⟩) cap 4:=by
 have hg:gb<W.heap.size:=Nu hq
 have ij:b<W.heap.size:=by
  exact Ua4
 have aC:Below W.heap.size W ((W.alloc (.cells #[.int .i64 4] t)).alloc (.cells #[.bool true] t')).drew:=Jh (Jc (Jc (Nt) _) _);exact⟨Ja aC hq,Uc,Uc,Uc,Uc,hr.later aC,fun b' off' hA=>by injection hA with hA;injection hA with e1 e2;omega,Ua,Ua⟩
theorem Kth {W:World} {gb:Nat} {l:List Int} {b off cap:Nat} (t t':TypeId) (hq:W.cell? ⟨gb,0,none⟩=some (.slice (some ⟨b,off,none⟩) l.length cap)) (hr:Qc W (byU l) l.length (some ⟨b,off,none⟩) cap) (h0:0<l.length) :
  RdS ((W.alloc (.cells #[.bool true] t')).alloc (.cells #[.int .i64 4] t)).drew gb (W.heap.size+1) W.heap.size l (some ⟨b,off,none⟩) cap 4:=by
 have hg:gb<W.heap.size:=Nu hq
 have ij:b<W.heap.size:=by
  exact Ua4
 have aC:Below W.heap.size W ((W.alloc (.cells #[.bool true] t')).alloc (.cells #[.int .i64 4] t)).drew:=Jh (Jc (Jc (Nt) _) _);exact⟨Ja aC hq,Uc,Uc,Uc,Uc,hr.later aC,fun b' off' hA=>by injection hA with hA;injection hA with e1 e2;omega,Ua,Ua⟩
theorem Krx (m:Im) (hr:m.Right) (aw:Jsj m) (A:Option Addr) (cap:Nat) (w:World) (hb:Qc w (byU (Jba m)) (Jba m).length A cap) (hl:(Jba m).length<=2016) :
  Calls Tryz.prog 31 #[.slice A (Jba m).length cap] w fun r w'=>(∃ia,r = .returned (.tuple #[imV m ia,.bool true])/\Jd5 w' m ia)/\Below w.heap.size w w':=by
 have hib:=Kss hr aw.ver aw.fro hl;generalize Jba m=l at *;have ai:=hib.len;have hmag:=hib.magic;have bI:=hb.1;have aD:=hb.2.1;unfold maxLen at aD;obtain⟨b,off,rfl,hc⟩:=hb.2.2.2 Ua
 have hconv:∀W,Below w.heap.size w W->(convert 50 9 (.slice (some ⟨b,off,none⟩) 4 cap)).run Tryz.prog W = .ok (.string ⟨#[77,73,68,83]⟩) W:=fun W hW=>by
  rw [<-Kr8];refine run_convert_bytes_arg W 50 5 Tryz.underlying50 Tryz.underlying5 b off 4 cap [77,73,68,83] rfl (fun i hi=>?_) _ Tryz.underlying9;refine Ja hW (hc i _ ?_);have h1:l[i]?=(l.take 4)[i]?:=by rw [List.getElem?_take,if_pos hi]
  unfold byU;rw [List.getElem?_map,h1,hmag]
  match i,hi with
  | 0,_=>rfl
  | 1,_=>rfl
  | 2,_=>rfl
  | 3,_=>rfl
 have d4:decide ((4:Int)<=(l.length:Int))=true:=Ui;have d4':(4:Int)<=(l.length:Int):=Ua;have HCV:=Nf hconv;have HB:=Nf hb;have HIB:=Nf hib;have hlen4:27<=l.length:=Ua;clear hconv hmag hc hb ai hib
 go_enter Tryz.func31,Tryz.ntmps31
 go_wp2_with fail
 refine Jo fun W0 ag=>?_;have ax:=Nd w W0 Uz;have q0:=Nb W0 w.heap.size 0 (.slice (some ⟨b,off,none⟩) l.length cap) Uf;have bD:w.heap.size+2<=W0.heap.size:=Vu;have jl:=lt0 w W0;have hZ0:∀(j:Nat) (u:Value),Kqb[j]?=some u->W0.cell? ⟨w.heap.size+1,j,none⟩=some u:=fun j u hj=>by rw [ag];exact(Kmc _ _ _ Uh j).trans (by simpa [Kqb] using hj)
 have hZf:∀o,W0.frozen? ⟨w.heap.size+1,o,none⟩=false:=fun o=>Uf;clear ag;have hS:∀W',Below W0.heap.size W0 W'->W'.cell? ⟨w.heap.size,0,none⟩=some (.slice (some ⟨b,off,none⟩) l.length cap)/\(convert 50 9 (.slice (some ⟨b,off,none⟩) 4 cap)).run Tryz.prog W' = .ok (.string ⟨#[77,73,68,83]⟩) W':=fun W' h=>⟨Ja h q0,HCV.out _ (Jd ax h)⟩;have HS:=Nf hS;have ar:=hS _ (Jh (Nt));clear hS;have dD:=(HS.out _ (Jh (Jc (Nt) (.cells #[.bool false] 4)))).2;have fC:=(HS.out _ (Jh (Jc (Nt) (.cells #[.int .i64 0] 3)))).2;have aI:=(HS.out _ (Jh (Jc (Nt) (.cells #[.int .i64 4] 3)))).2;have iM:=(HS.out _ (Jh (Jc (Jc (Nt) (.cells #[.bool false] 4)) (.cells #[.int .i64 0] 3)))).2;have hv4:=(HS.out _ (Jh (Jc (Jc (Nt) (.cells #[.bool false] 4)) (.cells #[.int .i64 4] 3)))).2;have jr:=(HS.out _ (Jh (Jc (Jc (Nt) (.cells #[.int .i64 0] 3)) (.cells #[.bool false] 4)))).2;have yt:=(HS.out _ (Jh (Jc (Jc (Nt) (.cells #[.int .i64 4] 3)) (.cells #[.bool false] 4)))).2;have xe:=ar.2;have wA:(4:Int)<=(cap:Int):=Ua;have mV:=HB.out.later ax;have fF:=fun t t'=>Ks6 (W:=W0) t t' q0 mV Ua;have fa:=fun t t'=>Kth (W:=W0) t t' q0 mV Ua;have pS:=Nf fF;have sN:=Nf fa;clear fF fa mV
 go_upto_region 1 with (fail)
 go_cut [4,5] from 16 to 24 (fun s4 s5 wx=>∃ga gk:Nat,s4 = .pointer (some ⟨ga,0,none⟩)/\s5 = .pointer (some ⟨gk,0,none⟩)/\Hid (RdS wx w.heap.size ga gk l (some ⟨b,off,none⟩) cap 4/\W0.heap.size<=ga/\W0.heap.size<=gk/\wx.heap.size=W0.heap.size+2)/\Hid (Below W0.heap.size W0 wx))
 case first=>
  go_region
  all_goals
   go_wp2_with fail
   go_meet
   first
    | exact⟨_,_,rfl,rfl,Nf ⟨pS.out _ _,Ua,Ua,Uh⟩,Nf (Jh (Jc (Jc (Nt) _) _))⟩
    | exact⟨_,_,rfl,rfl,Nf ⟨sN.out _ _,Ua,Ua,Uh⟩,Nf (Jh (Jc (Jc (Nt) _) _))⟩
 case rest=>
  obtain⟨ga,gk,rfl,rfl,xb,bU⟩:=hcut;clear pS sN HS ar dD fC aI iM hv4 jr yt xe HCV;have q5:=xb.out.1.ck
  go_upto_region 7 with (fail)
  refine Jo fun V hV=>?_;have bK:=Nd wc V S9
  have eU:RmS w V wc.heap.size w.heap.size ga gk l (some ⟨b,off,none⟩) cap 4 Kqb:=by
   obtain⟨hrd1,hga,hgk,yf⟩:=xb.out;have fD:=hrd1.lt
   have ij:∀b' off',some (⟨b,off,none⟩:Addr)=some ⟨b',off',none⟩->b'≠wc.heap.size:=fun b' off' hA=>by
    injection hA with hA;injection hA with e1 e2;obtain⟨b2,off2,tM,am,-⟩:=hrd1.row.get (k:=0) (u:= .int .u8 l[0]) (by unfold byU;rw [List.getElem?_map,Ng Ua];rfl);injection tM with tM;injection tM with e3 e4;exact Ua
   refine⟨hrd1.later bK,Jd (Jd ax bU.out) bK,fun j u hj=>?_,fun o=>?_,?_,Ua,Ua,⟨Ua,Ua,Ua⟩,ij,fun j u hj=>Ja bK (Ja bU.out (hZ0 j u hj)),fun o=>(Jf bK _ _ Ua).trans ((Jf bU.out _ _ Ua).trans (hZf o))⟩
   ·rw [hV];exact(Kw _ _ _ j).trans (by simpa [Kqb] using hj)
   ·exact Uj
   ·exact Mj
  have hX:=eU.sep;clear hV bK xb bU hZ0 hZf q5 ax q0 wA d4 d4' HB;have fm:=Fr.good_iff.1 hr.fr;have e1:IntKind.u32.wrap m.ver=m.ver:=by rw [IntKind.wrap_u32'];have:=aw.ver;omega
  have e2:IntKind.u32.wrap m.fro=m.fro:=by rw [IntKind.wrap_u32'];have:=aw.fro;omega
  have e3:m.ver % 4294967296=m.ver:=by have:=aw.ver;omega
  have e4:m.fro % 4294967296=m.fro:=by have:=aw.fro;omega
  have y1:=aw.ver.1;have y2:=aw.fro.1;have y3:=hr.eld.1;have y4:=fm.1.1;have y5:=fm.2.2.1.1;have y6:=fm.2.2.2.1.1;have y7:=fm.2.2.2.2.1;have y8:=hr.step.2.2.1;have y9:=hr.move.2.2.1;have hon:m.fr.o=m.fr.n:=hr.old.1;have kc:=Nf aw;have HR:=Nf hr;have HON:=Nf hon;clear fm aw hr hon;obtain⟨xP,hX2,wW⟩:=hX;have c0:=eU.cx 0 _ rfl;have f0:=eU.fx 0;have hg:=Ko6 eU.rd Ua HIB.out.ok 4 8 4 m.ver rfl Ua Ua Ua rfl HIB.out.ver y1;have pQ:=eU.lx
  go_upto_region 8 with (go_at_call 65;go_loud (refine hg.mono ?_;rintro r w1 ⟨rfl,rfl⟩))
  refine Jo fun V1 hV=>?_;have iw:=((eU.move 8).store 0 (.int .u32 m.ver)).cast hV;clear hV eU c0 f0 hg pQ;have c1:=iw.cx 1 _ rfl;have f1:=iw.fx 1;have hg:=Ko6 iw.rd Ua HIB.out.ok 4 12 4 m.fro rfl Ua Ua Ua rfl HIB.out.fro y2;have pQ:=iw.lx
  go_upto_region 9 with (go_at_call 65;go_loud (refine hg.mono ?_;rintro r w1 ⟨rfl,rfl⟩))
  refine Jo fun V2 hV=>?_;have cI:=((iw.move 12).store 1 (.int .u32 m.fro)).cast hV;clear hV iw c1 f1 hg pQ;have c2:=cI.cx 2 _ rfl;have f2:=cI.fx 2;have hg:=Ko6 cI.rd Ua HIB.out.ok 1 13 1 m.eld rfl Ua Ua Ua rfl HIB.out.eld y3;have pQ:=cI.lx
  go_upto_region 10 with (go_at_call 65;go_loud (refine hg.mono ?_;rintro r w1 ⟨rfl,rfl⟩))
  refine Jo fun V3 hV=>?_;have kV:=((cI.move 13).store 2 (.int .i64 m.eld)).cast hV;clear hV cI c2 f2 hg pQ;have c3:=kV.cx 3 _ rfl;have f3:=kV.fx 3;have hg:=Ko6 kV.rd Ua HIB.out.ok 1 14 1 m.fr.s rfl Ua Ua Ua rfl HIB.out.s y4;have pQ:=kV.lx
  go_upto_region 11 with (go_at_call 65;go_loud (refine hg.mono ?_;rintro r w1 ⟨rfl,rfl⟩))
  refine Jo fun V4 hV=>?_;have sS:=((kV.move 14).store 3 (.int .i64 m.fr.s)).cast hV;clear hV kV c3 f3 hg pQ;have c4:=sS.cx 5 _ rfl;have f4:=sS.fx 5;have hg:=Ko6 sS.rd Ua HIB.out.ok 1 15 1 m.fr.n rfl Ua Ua Ua rfl HIB.out.n y5;have pQ:=sS.lx
  go_upto_region 12 with (go_at_call 65;go_loud (refine hg.mono ?_;rintro r w1 ⟨rfl,rfl⟩))
  refine Jo fun V5 hV=>?_;have hm5:=((sS.move 15).store 5 (.int .i64 m.fr.n)).cast hV;clear hV sS c4 f4 hg pQ;have c5:=hm5.cx 5 _ rfl;have c5':=hm5.cx 4 _ rfl;have f5:=hm5.fx 4;have pQ:=hm5.lx
  go_upto_region 13 with (fail)
  refine Jo fun V6 hV=>?_;have hm6:=(hm5.store 4 (.int .i64 m.fr.n)).cast hV;clear hV hm5 c5 c5' f5 pQ;have c6:=hm6.cx 6 _ rfl;have f6:=hm6.fx 6;have hg:=Ko6 hm6.rd Ua HIB.out.ok 1 16 1 m.fr.i rfl Ua Ua Ua rfl HIB.out.i y6;have pQ:=hm6.lx
  go_upto_region 14 with (go_at_call 65;go_loud (refine hg.mono ?_;rintro r w1 ⟨rfl,rfl⟩))
  refine Jo fun V7 hV=>?_;have hm7:=((hm6.move 16).store 6 (.int .i64 m.fr.i)).cast hV;clear hV hm6 c6 f6 hg pQ;have c7:=hm7.cx 7 _ rfl;have f7:=hm7.fx 7;have hg:=Ko6 hm7.rd Ua HIB.out.ok 1 17 1 m.fr.u rfl Ua Ua Ua rfl HIB.out.u y7;have pQ:=hm7.lx
  go_upto_region 15 with (go_at_call 65;go_loud (refine hg.mono ?_;rintro r w1 ⟨rfl,rfl⟩))
  refine Jo fun V8 hV=>?_;have hm8:=((hm7.move 17).store 7 (.int .i64 m.fr.u)).cast hV;clear hV hm7 c7 f7 hg pQ;have c8:=hm8.cx 11 _ rfl;have f8:=hm8.fx 11;have hg:=Ko6 hm8.rd Ua HIB.out.ok 2 19 2 m.sf rfl Ua Ua Ua rfl HIB.out.sf y8;have pQ:=hm8.lx
  go_upto_region 16 with (go_at_call 65;go_loud (refine hg.mono ?_;rintro r w1 ⟨rfl,rfl⟩))
  refine Jo fun V9 hV=>?_;have hm9:=((hm8.move 19).store 11 (.int .i64 m.sf)).cast hV;clear hV hm8 c8 f8 hg pQ;have c9:=hm9.cx 12 _ rfl;have f9:=hm9.fx 12;have hg:=Ko6 hm9.rd Ua HIB.out.ok 2 21 2 m.mf rfl Ua Ua Ua rfl HIB.out.mf y9;have pQ:=hm9.lx
  go_upto_region 17 with (go_at_call 65;go_loud (refine hg.mono ?_;rintro r w1 ⟨rfl,rfl⟩))
  refine Jo fun V10 hV=>?_;have hm10:=((hm9.move 21).store 12 (.int .i64 m.mf)).cast hV;clear hV hm9 c9 f9 hg pQ;clear e1 e2 e3 e4 y1 y2 y3 y4 y5 y6 y7 y8 y9;have hlt10:=hm10.rd.lt.2.1;have ji:=Kp1 hm10.rd Ua HIB.out.ok 23 (23+(Je9 m.first).length) (Je9 m.first) HIB.out.k1 rfl rfl Gv HIB.out.r1;unfold Ktp at ji;have vU:=Nf ji;have HM10:=Nf hm10;clear ji hm10
  go_upto_region 18 with (first
   | (go_at_call 67;go_loud (refine(Kp1 HM12.out.rd Ua HIB.out.ok (27+(Je9 m.first).length+(Ja7 m.step).length) l.length (Ja7 m.move) HIB.out.k3 Ua Gv (Ns _) (by rw [show 27+(Je9 m.first).length+(Ja7 m.step).length=25+(Je9 m.first).length+(Ja7 m.step).length+2 by omega];exact HIB.out.r3)).mono ?_;rintro r w' ⟨v3,w3,rfl,aE,aM,rfl⟩;obtain⟨B3,b3,rfl,-,-⟩:=Jv aE;have HM13:=Nf ((HM12.out.later aM).move l.length);have O13:=Nf (Jbd (Jy O12.out aM) hlt10 0 (.int .i64 l.length));have O23:=Nf (Jbd (Jy O22.out aM) hlt11 0 (.int .i64 l.length));have O33:=Nf (Jbd aE hlt12 0 (.int .i64 l.length));clear aE))
   | (go_at_call 67;go_loud (refine(Kp1 HM11.out.rd Ua HIB.out.ok (25+(Je9 m.first).length) (25+(Je9 m.first).length+(Ja7 m.step).length) (Ja7 m.step) HIB.out.k2 Ua rfl Gv (by rw [show 25+(Je9 m.first).length=23+(Je9 m.first).length+2 by omega];exact HIB.out.r2)).mono ?_;rintro r w' ⟨v2,w2,rfl,ao,aq,rfl⟩;obtain⟨B2,b2,rfl,-,-⟩:=Jv ao;have HM12:=Nf ((HM11.out.later aq).move (25+(Je9 m.first).length+(Ja7 m.step).length));have hlt12:=HM12.out.rd.lt.2.1;have O12:=Nf (Jbd (Jy O11.out aq) hlt10 0 (.int .i64 ((25+(Je9 m.first).length+(Ja7 m.step).length:Nat):Int)));have O22:=Nf (Jbd ao hlt11 0 (.int .i64 ((25+(Je9 m.first).length+(Ja7 m.step).length:Nat):Int)));clear ao))
   | (go_at_call 67;go_loud (refine vU.out.mono ?_;rintro r w' ⟨v1,w1,rfl,ba,ac,rfl⟩;obtain⟨B1,b1,rfl,-,-⟩:=Jv ba;have HM11:=Nf ((HM10.out.later ac).move (23+(Je9 m.first).length));have hlt11:=HM11.out.rd.lt.2.1;have O11:=Nf (Jbd ba hlt10 0 (.int .i64 ((23+(Je9 m.first).length:Nat):Int)));clear ba)))
  refine Jo fun V13 hV=>?_;have hm13:=HM13.out.cast hV;have o1:V13.ownsRow V10.heap.size 5 1 (.slice B1 (Je9 m.first).length b1) (Je9 m.first).length (byU (Je9 m.first)):=by rw [hV];exact O13.out
  have o2:=hV ▸ O23.out;have o3:=hV ▸ O33.out;have hx10:=HM10.out.lx;have hx11:=HM11.out.lx;have hx12:=HM12.out.lx;clear hV HM10 HM11 HM12 HM13 O11 O12 O22 O13 O23 O33 vU ac aq aM hlt10 hlt11 hlt12;have ak:=Qc.own2 o1;have dm:=fun W (hk:J6 (fun b=>b=wc.heap.size) V13 W)=>Qc.own2 (hk.own (fun b hb=>by have:=(o2.lt b hb).1;show ¬b=wc.heap.size;omega) o2);have kE:=fun W (hk:J6 (fun b=>b=wc.heap.size) V13 W)=>Qc.own2 (hk.own (fun b hb=>by have:=(o3.lt b hb).1;show ¬b=wc.heap.size;omega) o3);have hl13:=HIB.out.len;have hw4:(Je9 m.first).length=4 * m.first.length:=Jsn m.first;have hwd:=fun W (h:Below V13.heap.size V13 W)=>Krl m.first B1 b1 W (ak.later h) Ua;have ji:((Je9 m.first).length:Int) % 4=0:=Ua;have je:((Je9 m.first).length:Int).tmod 4=0:=by rw [Int.tmod_eq_emod_of_nonneg Ua];omega
  have tX:m.first.length<=1000:=Ua;have k1:=hm13.rd.ca;have k2:=hm13.rd.cb;have k3:=hm13.rd.ck;have HM13:=Nf hm13;have HWD:=Nf hwd;have HC2:=Nf dm;have HC3:=Nf kE;clear hm13 hwd ak dm kE o1 o2 o3 hl13 hw4
  go_wp2_with (go_at_call 69;go_loud (refine(HWD.out _ Jb).mono ?_;rintro r w4 ⟨⟨v4,rfl,cj⟩,ei⟩;obtain⟨B4,b4,rfl,-,-⟩:=Jv cj))
  have sS:=HM13.out.later ei;have hI:=kc.out.first;have HO4:=Nf cj;have HM4:=Nf sS;have HB4:=Nf ei;clear cj sS ei HWD ji je k1 k2 k3
  go_loopw [92] (fun i wr=>∃(k:Nat) (A6:Option Addr) (c6:Nat),k<=m.first.length/\i = .int .i64 k/\Hid (RmS w wr wc.heap.size w.heap.size ga gk l (some ⟨b,off,none⟩) cap l.length ((Kts m).set 8 (.slice A6 k c6)))/\Hid (wr.ownsRow w4.heap.size 21 1 (.slice A6 k c6) k (nuI (m.first.take k)))/\Hid (J6 (fun b=>b=wc.heap.size) w4 wr)) (fun i _=>m.first.length-(intOf i).toNat)
  case atStart=>exact⟨0,none,0,Np,rfl,HM4,Nf (Nw),Nf (J6.refl _)⟩
  case round=>
   obtain⟨k,A6,c6,hk,rfl,ej,ae,sT⟩:=hrel;have bu:=sT.out.size;have pQ:=ej.out.lx;have hx4:=HM4.out.lx
   by_cases am:k<m.first.length
   ·have hx:m.first[k]?=some m.first[k]:=Ng am;have aP:m.first.take (k+1)=m.first.take k ++ [m.first[k]]:=U7;have hix:=hI m.first[k] (Nj am);generalize m.first[k]=x at hx aP hix;obtain⟨g4,c4,hv4,cg,hg4l,-,-,hcc4⟩:=Kc HO4.out Ua;have d0:=Nb wr g4 k (.int .u32 (Xh x:Nat)) (sT.out.cell (by show ¬g4=wc.heap.size;have:=HM13.out.lx;omega) (hcc4 k _ (by unfold wdC;rw [List.getElem?_map,hx];rfl)));injection hv4 with e1 e2 e3;subst e1;have hki:(k:Int)<(m.first.length:Int):=Ua;have q8:=Nb wr wc.heap.size 8 (.slice A6 k c6) (ej.out.cx 8 _ rfl);have f8:=ej.out.fx 8;have nn:nuI (m.first.take (k+1))=nuI (m.first.take k) ++ [.int .i32 x]:=by rw [aP];unfold nuI;simp
    have vC:=Nf nn;have HIX:=Nf hix;clear hx aP hix nn hcc4
    go_upto_region 23 with (fail)
    refine Kd (fun V:World=>V.cell? ⟨wc.heap.size,8,none⟩=some (.slice A6 k c6)) 5 3 Ue Gp ?_;simp only [List.size_toArray,Nl,Nm,Nat.zero_add,Nat.reduceAdd];have ar:wr.drew.cell? ⟨wc.heap.size,8,none⟩=some (.slice A6 k c6):=q8;refine Ji 0 ar ?_;refine Ji 1 ar ?_;refine Ji 2 ar ?_;refine Kb 3 ?_;refine Jj fun K hK=>?_;go_simp;refine(Kpz x HIX.out _).mono ?_;rintro r wo ⟨rfl,hwo⟩;dsimp only;subst hwo;refine hK _ _ ⟨ar,?_⟩;clear hK K
    try simp only [Act.put,sa1,sa2,sa3]
    refine Kb 4 ?_;refine Jj fun K hK=>?_;go_simp;refine hK _ _ ⟨J4 ar,?_⟩;clear hK K
    try simp only [Act.put,sa1,sa2,sa3]
    refine Kh Ue ?_;refine Qx 5 ?_;refine Ji5 (.tmp 97) (.tmp 100) 26 rfl w4.heap.size 21 _ 1 4 Tryz.underlying26 Jyk rfl Ua (.slice A6 k c6) k (nuI (m.first.take k)) wr.heap.size 1 1 [.int .i32 x] rfl (Js (Kp ae.out)) rfl rfl (fun j u hj=>by rw [Xi,Kmc _ _ _ rfl];simpa using hj) Vg Ua Ua Ud ?_;intro v7 w7 my hg7 hv7;obtain⟨A7,c7,rfl,-,-⟩:=Jv my;have hb7:w7.heap[wc.heap.size]?=wr.heap[wc.heap.size]?:=(hg7.block _ Ud (fun he=>by have:=(ae.out.lt _ he.symm).1;omega)).trans (heap_alloc_old _ _ pQ);have m8:=Nb w7 wc.heap.size 8 (.slice A6 k c6) (Jr hb7 q8);have mf:=Nc w7 wc.heap.size 8 ((World.frozen?_of_block (a:=⟨wc.heap.size,8,none⟩) hb7).trans f8);refine Qx 6 ?_;refine Jj fun K hK=>?_;go_simp;refine hK _ _ ?_;clear hK K
    try simp only [Act.put,sa1,sa2,sa3]
    refine Qx 7 ?_;refine Jj fun K hK=>?_;go_simp;refine hK _ _ ?_;clear hK K
    try simp only [Act.put,sa1,sa2,sa3]
    refine Ki Ue ?_
    go_wp2_with fail
    go_roundw
    case rel=>
     have k1:J6 (fun b=>b=wc.heap.size) w4 (wr.drew.alloc (.cells #[.int .i32 x] 21)):=sT.out.drew.alloc _;have k2:J6 (fun b=>b=wc.heap.size) w4 w7:=k1.trans (J6.grown (S:=fun b=>(Value.slice A6 k c6).ownBlock=some b) hg7 fun b hb=>hb) fun b hb hs=>absurd (ae.out.lt b hs).1 Ua;have k3:=k2.setCell (b:=wc.heap.size) rfl 8 (.slice A7 (k+1) c7);refine⟨k+1,Ua,Uw,A7,c7,Nf (HM4.out.of_kept k3 (fun j u hj=>?_) fun o=>?_),Nf ?_,Nf k3⟩
     ·by_cases hj8:j=8
      ·subst hj8
       have hu:u = .slice A7 (k+1) c7:=by
        have:((Kts m).set 8 (.slice A7 (k+1) c7))[8]?=some (.slice A7 (k+1) c7):=rfl;rw [this] at hj;injection hj with hj;exact hj.symm
       rw [hu];exact Nx _ _ _ m8
      ·rw [List.getElem?_set_ne Ua] at hj;exact(J5 _ _ _ _ _ hj8).trans (Jr (a:=⟨wc.heap.size,j,none⟩) hb7 (ej.out.cx j u (by rw [List.getElem?_set_ne Ua];exact hj)))
     ·exact(World.frozen?_setCell ..).trans ((World.frozen?_of_block (a:=⟨wc.heap.size,o,none⟩) hb7).trans (ej.out.fx o))
     ·rw [vC.out];exact Jbd my hx4 8 _
    case measure=>simp [intOf];omega
   ·obtain rfl:k=m.first.length:=Ua;have ln:=ae.out;rw [List.take_length] at ln;have HMR:=Nf ej.out;have HO1:=Nf ln;have hkz:=sT.out;have hstp:=fun W (hb:Qc W (byU (Ja7 m.step)) (Ja7 m.step).length B2 b2)=>Kpy m.step B2 b2 W hb Gv HR.out.step.1 HR.out.step.2.1 kc.out.step;have hmov:=fun W (hb:Qc W (byU (Ja7 m.move)) (Ja7 m.move).length B3 b3)=>Kpy m.move B3 b3 W hb Gv HR.out.move.1 HR.out.move.2.1 kc.out.move;unfold Ksv at hstp hmov;have HSTP:=Nf hstp;have HMOV:=Nf hmov;have hk13:J6 (fun b=>b=wc.heap.size) V13 wr:=(J6.bel HB4.out).trans' sT.out;have n9:=ej.out.cx 9 _ rfl;have n10:=ej.out.cx 10 _ rfl;have nf:=ej.out.fx;clear hkz hstp hmov ln
    go_upto_region 28 with (first
     | (go_at_call 71;go_loud (refine(HMOV.out _ (HC3.out _ bb)).mono ?_;rintro r w6 ⟨⟨v7,rfl,my⟩,yM⟩;obtain⟨A7,c7,rfl,-,-⟩:=Jv my;have hm6:=hm5.later yM;have k10:=hm6.cx 10 _ rfl;have kf:=hm6.fx 10))
     | (go_at_call 71;go_loud (refine(HSTP.out _ (HC2.out _ hk13)).mono ?_;rintro r w5 ⟨⟨v5,rfl,bX⟩,da⟩;obtain⟨A5,c5,rfl,-,-⟩:=Jv bX;have hm5:=(HMR.out.later da).store 9 (.slice A5 m.step.length c5);have j9:=(HMR.out.later da).cx 9 _ rfl;have jf:=(HMR.out.later da).fx 9;have bb:J6 (fun b=>b=wc.heap.size) V13 (w5.setCell ⟨wc.heap.size,9,none⟩ (.slice A5 m.step.length c5)):=(hk13.trans' (J6.bel da)).setCell (b:=wc.heap.size) rfl _ _)))
    refine Jo fun V28 hV=>?_;have hm28:=(hm6.store 10 (.slice A7 m.move.length c7)).cast hV;have dC:wc.heap.size<wr.heap.size:=pQ;have o5:V28.ownsRow wr.heap.size 122 2 (.slice A5 m.step.length c5) m.step.length (cdC m.step):=by rw [hV];exact Jbd (Jy (Jbd bX dC 9 _) yM) dC 10 _
    have wT:wc.heap.size<(w5.setCell ⟨wc.heap.size,9,none⟩ (.slice A5 m.step.length c5)).heap.size:=hm5.lx;have o7:V28.ownsRow (w5.setCell ⟨wc.heap.size,9,none⟩ (.slice A5 m.step.length c5)).heap.size 122 2 (.slice A7 m.move.length c7) m.move.length (cdC m.move):=by rw [hV];exact Jbd my wT 10 _
    have o1:V28.ownsRow w4.heap.size 21 1 (.slice A6 m.first.length c6) m.first.length (nuI m.first):=by rw [hV];exact Jbd (Jy (Jbd (Jy HO1.out da) hx4 9 _) yM) hx4 10 _
    have hZ4:w.heap.size+1<w4.heap.size:=Sq;have hZ5:w.heap.size+1<wr.heap.size:=Sq;have hZ7:w.heap.size+1<(w5.setCell ⟨wc.heap.size,9,none⟩ (.slice A5 m.step.length c5)).heap.size:=Sq;have m0:=hm28.cx 0 _ rfl;have m1:=hm28.cx 1 _ rfl;have m2:=hm28.cx 2 _ rfl;have m3:=hm28.cx 3 _ rfl;have m4:=hm28.cx 4 _ rfl;have m5:=hm28.cx 5 _ rfl;have m6:=hm28.cx 6 _ rfl;have m7:=hm28.cx 7 _ rfl;have m8:=hm28.cx 8 _ rfl;have m9:=hm28.cx 9 _ rfl;have m10:=hm28.cx 10 _ rfl;have m11:=hm28.cx 11 _ rfl;have m12:=hm28.cx 12 _ rfl;have z0:=hm28.cz 0 _ rfl;have z1:=hm28.cz 1 _ rfl;have z2:=hm28.cz 2 _ rfl;have z3:=hm28.cz 3 _ rfl;have z4:=hm28.cz 4 _ rfl;have z5:=hm28.cz 5 _ rfl;have z6:=hm28.cz 6 _ rfl;have z7:=hm28.cz 7 _ rfl;have z8:=hm28.cz 8 _ rfl;have z9:=hm28.cz 9 _ rfl;have z10:=hm28.cz 10 _ rfl;have z11:=hm28.cz 11 _ rfl;have z12:=hm28.cz 12 _ rfl;have zf:=hm28.fz;have hlx28:=hm28.lx;have hZ28:w.heap.size+1<V28.heap.size:=Sq;have bK:=hm28.bel;have HBV:=Nf bK;have HCZ:=Nf hm28.cz;have HR5:=Nf o5;have HR7:=Nf o7;have pS:=Nf o1;clear hV bK hm28 hm6 hm5 bX my da yM o5 o7 o1 sT ej ae hk13 bb wT
    go_wp2_with fail
    refine Zc fun F hF=>?_;obtain⟨Y,hY,hF2⟩:∃Y,Y=Koi V28 (w.heap.size+1) 0 [.int .u32 m.ver,.int .u32 m.fro,.int .i64 m.eld,.int .i64 m.fr.s,.int .i64 m.fr.n,.int .i64 m.fr.n,.int .i64 m.fr.i,.int .i64 m.fr.u,.slice A6 m.first.length c6,.slice A5 m.step.length c5,.slice A7 m.move.length c7,.int .i64 m.sf,.int .i64 m.mf]/\F=Y:=⟨_,rfl,hF⟩;subst hF2
    have hz:∀(j:Nat) (u:Value),([.int .u32 m.ver,.int .u32 m.fro,.int .i64 m.eld,.int .i64 m.fr.s,.int .i64 m.fr.n,.int .i64 m.fr.n,.int .i64 m.fr.i,.int .i64 m.fr.u,.slice A6 m.first.length c6,.slice A5 m.step.length c5,.slice A7 m.move.length c7,.int .i64 m.sf,.int .i64 m.mf]:List Value)[j]?=some u->F.cell? ⟨w.heap.size+1,j,none⟩=some u:=fun j u hj=>by
     have h1:=Kom (z:=w.heap.size+1) [.int .u32 m.ver,.int .u32 m.fro,.int .i64 m.eld,.int .i64 m.fr.s,.int .i64 m.fr.n,.int .i64 m.fr.n,.int .i64 m.fr.i,.int .i64 m.fr.u,.slice A6 m.first.length c6,.slice A5 m.step.length c5,.slice A7 m.move.length c7,.int .i64 m.sf,.int .i64 m.mf] 0 V28 (fun i hi=>by
      rw [Nat.zero_add];have dR:i<Kqb.length:=hi;exact⟨_,HCZ.out i _ (Ng dR)⟩) j u hj
     rw [Nat.zero_add,<-hY] at h1;exact h1
    have hbF:=Nd w F (by rw [hY];exact Kok (Nat.le_succ _) _ _ _ HBV.out)
    have himF:Jd5 F m ⟨A6,c6,A5,c5,A7,c7⟩:=by
     rw [hY];obtain⟨_,_,e1,g1⟩:=Qc.of_own (Kpu hZ4 _ 0 V28 pS.out);injection e1 with a1 a2 a3;subst a1 a3;exact⟨g1,Kqk (Kpu hZ5 _ 0 V28 HR5.out),Kqk (Kpu hZ7 _ 0 V28 HR7.out)⟩
    have himv:imV m ⟨A6,c6,A5,c5,A7,c7⟩ = .agg ([.int .u32 m.ver,.int .u32 m.fro,.int .i64 m.eld,.int .i64 m.fr.s,.int .i64 m.fr.n,.int .i64 m.fr.n,.int .i64 m.fr.i,.int .i64 m.fr.u,.slice A6 m.first.length c6,.slice A5 m.step.length c5,.slice A7 m.move.length c7,.int .i64 m.sf,.int .i64 m.mf]:List Value).toArray:=by unfold imV;rw [HON.out]
    clear hY;exact Nv (v:= .tuple #[.agg ([.int .u32 m.ver,.int .u32 m.fro,.int .i64 m.eld,.int .i64 m.fr.s,.int .i64 m.fr.n,.int .i64 m.fr.n,.int .i64 m.fr.i,.int .i64 m.fr.u,.slice A6 m.first.length c6,.slice A5 m.step.length c5,.slice A7 m.move.length c7,.int .i64 m.sf,.int .i64 m.mf]:List Value).toArray,.bool true]) (Kpw rfl [.int .u32 m.ver,.int .u32 m.fro,.int .i64 m.eld,.int .i64 m.fr.s,.int .i64 m.fr.n,.int .i64 m.fr.n,.int .i64 m.fr.i,.int .i64 m.fr.u,.slice A6 m.first.length c6,.slice A5 m.step.length c5,.slice A7 m.move.length c7,.int .i64 m.sf,.int .i64 m.mf] rfl Ue Ue hz rfl) rfl ⟨⟨⟨A6,c6,A5,c5,A7,c7⟩,by rw [himv],himF⟩,hbF⟩
end Go.Proofs.YtdgjplldlfeolaaGreatDoor
