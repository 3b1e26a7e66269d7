/- Lemmas. -/
import Derived.Test.YtdgjplldlfeolaaGreatDoorMac
import Derived.Test.YtdgjplldlfeolaaGreatDoorY38
import Derived.Deep.RegionLaw
import Derived.Deep.CutRange
import Derived.Test.YtdgjplldlfeolaaGreatDoorY09
import Derived.Test.YtdgjplldlfeolaaGreatDoorY14
import Derived.Test.YtdgjplldlfeolaaGreatDoorY36
import Derived.Test.YtdgjplldlfeolaaGreatDoorY34
import Derived.Test.YtdgjplldlfeolaaGreatDoorY17
import Derived.Test.YtdgjplldlfeolaaGreatDoorY20
import Derived.Test.YtdgjplldlfeolaaGreatDoorY10
set_option linter.unusedVariables false
set_option linter.unusedSimpArgs false
set_option maxRecDepth 100000
set_option maxHeartbeats 64000000
namespace Go.Proofs.YtdgjplldlfeolaaGreatDoor
open Go.RowKit Go.Sort
def Ko4 (w:World) (m:Nat) (r:Ending) (w':World):Prop:=
 (∃(v:Value) (c:List (Int×Int)),r = .returned v/\w'.ownsRow w.heap.size 122 2 v c.length (cdC c)/\0<c.length/\c.length<=2 * m/\∀i∈c,I32 i.2)/\Below w.heap.size w w'
theorem Ko4.of_put {w W':World} {m base:Nat} {c:List (Int×Int)} {A:Option Addr} {cap:Nat} (h:Koz W' (w.heap.size+1) base c A cap) (hb:Below w.heap.size w W') (h0:0<c.length) (hm:c.length<=2 * m) (hi:∀i∈c,I32 i.2):Ko4 w m (.returned (.slice A c.length cap)) W':=
 ⟨⟨_,c,rfl,K8 h.own (by have:=h.lt;omega),h0,hm,hi⟩,hb⟩
theorem Ko4.of_put2 {w W':World} {m base:Nat} {c:List (Int×Int)} {A:Option Addr} {cap:Nat} {v:Value} (h:Koz W' (w.heap.size+1) base c A cap) (hb:Below w.heap.size w W') (hv:v = .slice A c.length cap) (h0:0<c.length) (hm:c.length<=2 * m) (hi:∀i∈c,I32 i.2):Ko4 w m (.returned v) W':=by subst hv;exact Ko4.of_put h hb h0 hm hi
theorem Kpo {n:Int} (h:I32 n):IntKind.i32.wrap n=n:=by
 obtain⟨h1,h2⟩:=h;rw [IntKind.wrap_i32];omega
theorem Ko5 {l:List (Int×Int)} {op n:Int} (h:∀i∈l,I32 i.2) (hn:I32 n):∀i∈l ++ [(op,n)],I32 i.2:=fun i hi=>by
 rcases List.mem_append.1 hi with hi|hi
 ·exact h i hi
 ·rw [List.mem_singleton.1 hi];exact hn
theorem Kpx {l m:List (Int×Int)} (h:∀i∈l,I32 i.2) (h':∀i∈m,I32 i.2):∀i∈l ++ m,I32 i.2:=fun i hi=>by
 rcases List.mem_append.1 hi with hi|hi
 ·exact h i hi
 ·exact h' i hi
theorem Kq5 (W:World) (g base:Nat) (l:List (Int×Int)) (A:Option Addr) (cap:Nat) (h:Koz W g base l A cap) (op n:Int) (hl:l.length<=100000) :
  Calls Tryz.prog 114 #[.int .i64 op,.int .i32 n,.pointer (some ⟨g,0,none⟩)] W fun r w'=>r = .returned (.tuple #[])/\(∃l2 A2 c2,Koz w' g base l2 A2 c2/\Hid (l2=l ++ [(op,n)]/\l2.length=l.length+1))/\Aft g base W w':=
 (Kps W g base l A cap h op n hl).mono fun r w' ⟨h1,⟨A2,c2,h2⟩,h3⟩=>⟨h1,⟨_,A2,c2,h2,Nf ⟨rfl,Uh⟩⟩,h3⟩
theorem Koz.app_var {W w4:World} {g base:Nat} {l c:List (Int×Int)} {A A6:Option Addr} {cap c6:Nat} (h:Koz W g base l A cap) (ho:w4.ownsRow base 122 2 (.slice A6 (l.length+c.length) c6) (l.length+c.length) (cdC l ++ cdC c)) (hg:W.grownBy w4 (Value.slice A l.length cap).ownBlock) :
  ∃l2,Koz (w4.setCell ⟨g,0,none⟩ (.slice A6 (l.length+c.length) c6)) g base l2 A6 c6/\Hid (l2=l ++ c/\l2.length=l.length+c.length)/\Aft g base W (w4.setCell ⟨g,0,none⟩ (.slice A6 (l.length+c.length) c6))/\w4.cell? ⟨g,0,none⟩=some (.slice A l.length cap)/\w4.frozen? ⟨g,0,none⟩=false:=by
 obtain⟨h1,h2⟩:=h.app ho hg;have am:=h.lt;have nn:=h.le;have aS:some g≠(Value.slice A l.length cap).ownBlock:=fun he=>Md;have hbk:=hg.block g Ua aS;exact⟨_,h1,Nf ⟨rfl,Uh⟩,h2,Jr (a:=⟨g,0,none⟩) hbk h.c0,(World.frozen?_of_block (a:=⟨g,0,none⟩) hbk).trans h.fz⟩
section
variable {X:Nat} {V1:List Va} {A1:Option Addr} {c1 D1 n1:Nat} {d1:ByteArray->Option Int} {V2:List Va} {A2:Option Addr} {c2 D2 n2:Nat} {d2:ByteArray->Option Int} {b3:Nat}
theorem Ksb (e:Ex):e.formed=true->e.OK->e.size<=1000->∀(A:Option Addr) (cap:Nat) (w:World),Jt w e A cap->Ko8 w X V1 A1 c1 D1 n1 d1 V2 A2 c2 D2 n2 d2 b3->
  Calls Tryz.prog 92 #[.pointer (some ⟨X,0,none⟩),exV e A cap] w (Ko4 w e.size):=by
 induction e using Ex.ind with
 | h e ih=>
 intro hf aw cE A cap w he hpa;have ai:=(Ex.formed_kind hf).1;have yu:I32 e.n:=by cases e;exact aw.2.1
 have aL:e.name.size<=maxLen:=by cases e;exact aw.2.2.1
 have hse:=Ex.size_eq e;have bC:1<=e.size:=Ua;have hl:=he.len;unfold maxLen at hl;obtain⟨bI,aD⟩:=hl;have hXw:=Nu hpa.e0
 have pp:∀t t',Koz ((w.alloc (.cells #[.int .i64 e.kind,.int .i32 e.n,.string e.name,.slice A e.sub.length cap] t)).alloc (.cells #[.slice none 0 0] t')) (w.heap.size+1) (w.heap.size+2) [] none 0:=fun t t'=>by
  have:=Koz.new (w.alloc (.cells #[.int .i64 e.kind,.int .i32 e.n,.string e.name,.slice A e.sub.length cap] t)) t';simpa using this
 unfold exV
 cases k3:(e.kind == 3)
 ·cases k4:(e.kind == 4)
  ·cases k5:(e.kind == 5)
   ·cases k6:(e.kind == 6)
    ·have iF:=fun W h=>Kps W (w.heap.size+1) (w.heap.size+2) [] none 0 h 1 e.n Uh;have kT:=Nf iF;have HP0:=Nf pp;clear iF pp ih he hpa
     go_enter Tryz.func92,Tryz.ntmps92
     go_wp2_with (go_at_call 114;go_loud (refine(kT.out _ (HP0.out _ _)).mono ?_;rintro r w2 ⟨rfl,⟨Ac,cc,cP⟩,haf⟩;have q0:=cP.c0))
     go_ret;exact Ko4.of_put (m:=e.size) cP (haf.below (Jc (Jc (Nt) _) _) Ua Ua) Uh Ui (Ko5 Uh yu)
    ·have hk:e.kind=6:=by simpa using k6
     have fw:e.sub.length=3:=Mg;obtain⟨x,y,z,sd⟩:∃x y z,e.sub = [x,y,z]:=Jn6 fw;have hx0:e.sub[0]?=some x:=S6;have jl:e.sub[1]?=some y:=S6;have iq:e.sub[2]?=some z:=S6;have mH:x∈e.sub:=Sz;have hmy:y∈e.sub:=Sz;have hmz:z∈e.sub:=Sz;have hxz:=Ex.size_sub hx0;have qZ:=Ex.size_sub jl;have eI:=Ex.size_sub iq;have hsum:e.size=x.size+y.size+z.size+1:=by rw [hse,sd];simp [Ex.sizeL];omega
     obtain⟨b,off,A',cap',hA,q0,q1,q2,q3,hs⟩:=he.get hx0;obtain⟨b',off',A2',cap2',tM,q4,q5,q6,q7,bd⟩:=he.get jl;obtain⟨b'',off'',A3',cap3',xJ,q8,q9,q10,q11,hs3⟩:=he.get iq;rw [hA] at tM xJ;injection tM with tM;injection tM with ea eb;injection xJ with xJ;injection xJ with ec ed;subst hA ea eb ec ed;simp only [Nat.zero_mul,Nat.add_zero,Nat.one_mul,Nat.reduceMul] at q0 q1 q2 q3 q4 q5 q6 q7 q8 q9 q10 q11;have aC:b<w.heap.size:=Nu q0;have hrecx:=fun W (hb:Below w.heap.size w W)=>ih x mH (Ex.formed_sub hf mH) (Ex.OK_sub aw mH) Ua A' cap' W (hs.later hb) (hpa.later hb);have hrecy:=fun W (hb:Below w.heap.size w W)=>ih y hmy (Ex.formed_sub hf hmy) (Ex.OK_sub aw hmy) Ua A2' cap2' W (bd.later hb) (hpa.later hb);have hrecz:=fun W (hb:Below w.heap.size w W)=>ih z hmz (Ex.formed_sub hf hmz) (Ex.OK_sub aw hmz) Ua A3' cap3' W (hs3.later hb) (hpa.later hb);unfold exV Ko4 at hrecx hrecy hrecz;have HX:=Nf hrecx;have HY:=Nf hrecy;have HZ:=Nf hrecz;have HP0:=Nf pp;have fD:(0:Int)<(e.sub.length:Int):=Ua;have hl5:(1:Int)<(e.sub.length:Int):=Ua;have hl7:(2:Int)<(e.sub.length:Int):=Ua;have cG:0<e.sub.length:=Ua;have hl6:1<e.sub.length:=Ua;have hl8:2<e.sub.length:=Ua;have HSUM:=Nf hsum;clear hrecx hrecy hrecz pp ih he hpa hk sd hx0 jl iq ai hse fw hsum
     go_enter Tryz.func92,Tryz.ntmps92
     go_upto_region 14 with (fail)
     refine Jo fun W0 ag=>?_;have ax:=Nd w W0 Uz;have p3:=Nb W0 w.heap.size 3 (.slice (some ⟨b,off,none⟩) e.sub.length cap) Uf;have hput0:Koz W0 (w.heap.size+1) (w.heap.size+2) [] none 0:=Sr;have bD:w.heap.size+1<W0.heap.size:=Vu;clear ag
     have hS:∀W',Below W0.heap.size W0 W'->W'.cell? ⟨w.heap.size,3,none⟩=some (.slice (some ⟨b,off,none⟩) e.sub.length cap)/\W'.cell? ⟨b,off+4,none⟩=some (.int .i64 y.kind)/\W'.cell? ⟨b,off+4+1,none⟩=some (.int .i32 y.n)/\W'.cell? ⟨b,off+4+2,none⟩=some (.string y.name)/\W'.cell? ⟨b,off+4+3,none⟩=some (.slice A2' y.sub.length cap2')/\W'.cell? ⟨b,off+8,none⟩=some (.int .i64 z.kind)/\W'.cell? ⟨b,off+8+1,none⟩=some (.int .i32 z.n)/\W'.cell? ⟨b,off+8+2,none⟩=some (.string z.name)/\W'.cell? ⟨b,off+8+3,none⟩=some (.slice A3' z.sub.length cap3'):=fun W' h=>
      ⟨Ja h p3,Ja h (Ja ax q4),Ja h (Ja ax q5),Ja h (Ja ax q6),Ja h (Ja ax q7),Ja h (Ja ax q8),Ja h (Ja ax q9),Ja h (Ja ax q10),Ja h (Ja ax q11)⟩
     have HS:=Nf hS;have ar:=hS _ (Jh (Nt));have HQa:=Nf q0;have HQb:=Nf q1;have HQc:=Nf q2;have HQd:=Nf q3;have HPd:=Nf p3;clear hS q0 q1 q2 q3 q4 q5 q6 q7 q8 q9 q10 q11 p3;refine Kd (fun W':World=>W'.cell? ⟨w.heap.size,3,none⟩=some (.slice (some ⟨b,off,none⟩) e.sub.length cap)/\W'.cell? ⟨b,off+4,none⟩=some (.int .i64 y.kind)/\W'.cell? ⟨b,off+4+1,none⟩=some (.int .i32 y.n)/\W'.cell? ⟨b,off+4+2,none⟩=some (.string y.name)/\W'.cell? ⟨b,off+4+3,none⟩=some (.slice A2' y.sub.length cap2')/\W'.cell? ⟨b,off+8,none⟩=some (.int .i64 z.kind)/\W'.cell? ⟨b,off+8+1,none⟩=some (.int .i32 z.n)/\W'.cell? ⟨b,off+8+2,none⟩=some (.string z.name)/\W'.cell? ⟨b,off+8+3,none⟩=some (.slice A3' z.sub.length cap3')) 12 2 Ue Gp ?_;simp only [List.size_toArray,Nl,Nm,Nat.zero_add,Nat.reduceAdd];refine Ji 0 ar ?_;refine Ji 1 ar ?_;refine Ji 2 ar ?_;refine Ji 3 ar ?_;refine Ji 4 ar ?_;refine Ji 6 ar ?_;refine Ji 7 ar ?_;refine Ji 8 ar ?_;refine Ji 9 ar ?_;refine Ji 10 ar ?_;refine Kb 5 ?_;refine Jj fun K hK=>?_;go_simp;refine(HY.out _ (Jh ax)).mono ?_;rintro r w1 ⟨⟨v1,cy,rfl,ba,h01,iw,dN⟩,ac⟩;dsimp only;have cT:=Nd W0 w1 (Jd (Jh (Nt)) ac);refine hK _ _ ⟨HS.out w1 cT,?_⟩;clear hK K
     try simp only [Act.put,sa1,sa2,sa3]
     refine Kb 11 ?_;refine Jj fun K hK=>?_;go_simp;refine(HZ.out _ (Jd ax cT)).mono ?_;rintro r w2 ⟨⟨v2,cz,rfl,ao,h02,cI,dR⟩,aq⟩;dsimp only;have cF:=Nd W0 w2 (Jd cT aq);refine hK _ _ ⟨HS.out w2 cF,?_⟩;clear hK K
     try simp only [Act.put,sa1,sa2,sa3]
     refine Kh Ue ?_;refine Qx 12 ?_;refine Jj fun K hK=>?_;go_simp;refine hK _ _ ?_;clear hK K
     try simp only [Act.put,sa1,sa2,sa3]
     refine Qx 13 ?_;refine Jj fun K hK=>?_;go_simp;refine hK _ _ ?_;clear hK K
     try simp only [Act.put,sa1,sa2,sa3]
     refine Ki Ue ?_;obtain⟨gy,capy,rfl,hgy,hgyl,-,-,hcy⟩:=Kc ba h01;obtain⟨gz,capz,rfl,eC,hgzl,-,-,hcz⟩:=Kc ao h02;have br:w1.heap.size<=w2.heap.size:=aq.size;have hgy2:W0.heap.size<=gy:=hgy;have fe:W0.heap.size<=w1.heap.size:=ac.size;have iY:=Jd ax cF;have r0:=Ja iY HQa.out;have r1:=Ja iY HQb.out;have r2:=Ja iY HQc.out;have r3:=Ja iY HQd.out;have rp:=Ja cF HPd.out;have gL:=hput0.later cF;have HCY:=Nf (fun j u (hj:(cdC cy)[j]?=some u)=>Ja aq (hcy j u hj));have HCZ:=Nf hcz;have kc:=Nf iw;have wD:IntKind.i32.wrap ((cy.length:Int)+1)=(cy.length:Int)+1:=Kpo ⟨Ua,Ua⟩;have sh:IntKind.i32.wrap (cz.length:Int)=(cz.length:Int):=Kpo ⟨Ua,Ua⟩;have aG:=ltA w 1 w2;have hyl:cy.length<=2000:=Ua;have su:cz.length<=2000:=Ua;have HBW2:=Nf iY;have zd:=Nf gL;clear hcy hcz hput0 cT cF ac aq ba ao HS ar ax iY gL
     go_wp2_with (first
      | (at_builtin;go_loud (refine Z2 rfl (.tmp 94) (.tmp 95) 27 rfl w2.heap.size 122 _ 2 16 Tryz.underlying27 Qz rfl Ua (.slice A6 l6.length c6) l6.length (cdC l6) gz cz.length capz (cdC cz) rfl hst6.own rfl (Jma cz) (fun j u hj=>hA6.cell (by show ¬(gz=w.heap.size+1\/w2.heap.size<=gz);omega) (HCZ.out j u hj)) (Q2 cz) (by have:=hl4'.out.2;have:=hl5'.out.2;have:=hl6'.out.2;omega) Ua hst6.le ?_;intro v7 w7 my hg7 hv7;obtain⟨A7,c7,rfl,-,-⟩:=Jv my;obtain⟨l7,hst7,hl7',hA7',b7,f7⟩:=hst6.app_var my hg7;have hA7:=hA6.trans' hA7'))
      | (go_at_call_of 114 (Value.int IntKind.i64 10);go_loud (refine(Kq5 _ _ _ _ _ _ hst5 10 (cz.length:Int) (by have:=hl4'.out.2;have:=hl5'.out.2;omega)).mono ?_;rintro r w6 ⟨rfl,⟨l6,A6,c6,hst6,hl6'⟩,haf6⟩;have u6:=hst6.c0;have hA6:=hA5.trans' haf6))
      | (at_builtin;go_loud (refine Z2 rfl (.tmp 86) (.tmp 87) 27 rfl w2.heap.size 122 _ 2 16 Tryz.underlying27 Qz rfl Ua (.slice A4 l4.length c4) l4.length (cdC l4) gy cy.length capy (cdC cy) rfl hst4.own rfl (Jma cy) (fun j u hj=>hA4.cell (by show ¬(gy=w.heap.size+1\/w2.heap.size<=gy);omega) (HCY.out j u hj)) (Q2 cy) (by have:=hl4'.out.2;omega) Ua hst4.le ?_;intro v5 w5 bX eT jr;obtain⟨A5,c5,rfl,-,-⟩:=Jv bX;obtain⟨l5,hst5,hl5',hA5',b5,f5⟩:=hst4.app_var bX eT;have hA5:=hA4.trans' hA5'))
      | (go_at_call_of 114 (Value.int IntKind.i64 11);go_loud (refine(Kq5 _ _ _ _ _ _ hpp.1 11 ((cy.length:Int)+1) Ua).mono ?_;rintro r w4 ⟨rfl,⟨l4,A4,c4,hst4,hl4'⟩,haf4⟩;have u4:=hst4.c0;have hA4:=xJ.trans' haf4))
      | (go_at_call 92;go_loud (refine(HX.out _ HBW2.out).mono ?_;rintro r w3 ⟨⟨v3,cx,rfl,aE,h03,kV,iI⟩,aM⟩;obtain⟨Av,cv,rfl,-,-⟩:=Jv aE;have ip:=zd.out.later aM;have y0:=ip.c0;have yf:=ip.fz;have hpp:=zd.out.put aM (show w.heap.size+2<=w2.heap.size by omega) aM.size aE;have xJ:Aft (w.heap.size+1) w2.heap.size w2 (w3.setCell ⟨w.heap.size+1,0,none⟩ (.slice Av cx.length cv)):=(J6.bel aM).setCell (b:=w.heap.size+1) (.inl rfl) _ _;have hz3':=aM.size;have ox:=ltA w 1 w3)))
     go_ret;have e4:=hl4'.out;have e5:=hl5'.out;have e6:=hl6'.out;have e7:=hl7'.out;refine Ko4.of_put2 (m:=e.size) hst7 (Aft.below hA7 HBW2.out (Nat.le_succ _) aG) (show Value.slice A7 (l6.length+cz.length) c7=_ by rw [e7.2]) Ua (by have:=HSUM.out;omega) ?_;rw [e7.1,e6.1,e5.1,e4.1];exact Kpx (Ko5 (Kpx (Ko5 iI ⟨Ua,Ua⟩) dN) ⟨Ua,Ua⟩) dR
   ·have hk:e.kind=5:=by simpa using k5
    have fw:e.sub.length=2:=Mg;obtain⟨x,y,sd⟩:∃x y,e.sub = [x,y]:=Jcn fw;have hx0:e.sub[0]?=some x:=S6;have jl:e.sub[1]?=some y:=S6;have mH:x∈e.sub:=Sz;have hmy:y∈e.sub:=Sz;have hxz:=Ex.size_sub hx0;have qZ:=Ex.size_sub jl;have hsum:e.size=x.size+y.size+1:=by rw [hse,sd];simp [Ex.sizeL]
    obtain⟨b,off,A',cap',hA,q0,q1,q2,q3,hs⟩:=he.get hx0;obtain⟨b',off',A2',cap2',tM,q4,q5,q6,q7,bd⟩:=he.get jl;rw [hA] at tM;injection tM with tM;injection tM with ea eb;subst hA ea eb;simp only [Nat.zero_mul,Nat.add_zero,Nat.one_mul] at q0 q1 q2 q3 q4 q5 q6 q7;have aC:b<w.heap.size:=Nu q0;have hrec:=fun W (hb:Below w.heap.size w W)=>ih x mH (Ex.formed_sub hf mH) (Ex.OK_sub aw mH) Ua A' cap' W (hs.later hb) (hpa.later hb);have hrec2:=fun W (hb:Below w.heap.size w W)=>ih y hmy (Ex.formed_sub hf hmy) (Ex.OK_sub aw hmy) Ua A2' cap2' W (bd.later hb) (hpa.later hb);unfold exV Ko4 at hrec hrec2;have HREC:=Nf hrec;have HREC2:=Nf hrec2;have HP0:=Nf pp;have fD:(0:Int)<(e.sub.length:Int):=Ua;have hl5:(1:Int)<(e.sub.length:Int):=Ua;have cG:0<e.sub.length:=Ua;have hl6:1<e.sub.length:=Ua;have HSUM:=Nf hsum;clear hrec hrec2 pp ih he hpa hk sd hx0 jl ai hse fw hsum
    go_enter Tryz.func92,Tryz.ntmps92
    go_upto_region 11 with (fail)
    refine Jo fun W0 ag=>?_;have ax:=Nd w W0 Uz;have p3:=Nb W0 w.heap.size 3 (.slice (some ⟨b,off,none⟩) e.sub.length cap) Uf;have pn:=Nb W0 w.heap.size 1 (.int .i32 e.n) Uf;have hput0:Koz W0 (w.heap.size+1) (w.heap.size+2) [] none 0:=Sr;have bD:w.heap.size+1<W0.heap.size:=Vu;clear ag
    have hS:∀W',Below W0.heap.size W0 W'->W'.cell? ⟨w.heap.size,3,none⟩=some (.slice (some ⟨b,off,none⟩) e.sub.length cap)/\W'.cell? ⟨b,off,none⟩=some (.int .i64 x.kind)/\W'.cell? ⟨b,off+1,none⟩=some (.int .i32 x.n)/\W'.cell? ⟨b,off+2,none⟩=some (.string x.name)/\W'.cell? ⟨b,off+3,none⟩=some (.slice A' x.sub.length cap')/\W'.cell? ⟨b,off+4,none⟩=some (.int .i64 y.kind)/\W'.cell? ⟨b,off+4+1,none⟩=some (.int .i32 y.n)/\W'.cell? ⟨b,off+4+2,none⟩=some (.string y.name)/\W'.cell? ⟨b,off+4+3,none⟩=some (.slice A2' y.sub.length cap2'):=fun W' h=>
     ⟨Ja h p3,Ja h (Ja ax q0),Ja h (Ja ax q1),Ja h (Ja ax q2),Ja h (Ja ax q3),Ja h (Ja ax q4),Ja h (Ja ax q5),Ja h (Ja ax q6),Ja h (Ja ax q7)⟩
    have HS:=Nf hS;have ar:=hS _ (Jh (Nt));clear hS q0 q1 q2 q3 q4 q5 q6 q7 p3;refine Kd (fun W':World=>W'.cell? ⟨w.heap.size,3,none⟩=some (.slice (some ⟨b,off,none⟩) e.sub.length cap)/\W'.cell? ⟨b,off,none⟩=some (.int .i64 x.kind)/\W'.cell? ⟨b,off+1,none⟩=some (.int .i32 x.n)/\W'.cell? ⟨b,off+2,none⟩=some (.string x.name)/\W'.cell? ⟨b,off+3,none⟩=some (.slice A' x.sub.length cap')/\W'.cell? ⟨b,off+4,none⟩=some (.int .i64 y.kind)/\W'.cell? ⟨b,off+4+1,none⟩=some (.int .i32 y.n)/\W'.cell? ⟨b,off+4+2,none⟩=some (.string y.name)/\W'.cell? ⟨b,off+4+3,none⟩=some (.slice A2' y.sub.length cap2')) 12 2 Ue Gp ?_;simp only [List.size_toArray,Nl,Nm,Nat.zero_add,Nat.reduceAdd];refine Ji 0 ar ?_;refine Ji 1 ar ?_;refine Ji 2 ar ?_;refine Ji 3 ar ?_;refine Ji 4 ar ?_;refine Ji 6 ar ?_;refine Ji 7 ar ?_;refine Ji 8 ar ?_;refine Ji 9 ar ?_;refine Ji 10 ar ?_;refine Kb 5 ?_;refine Jj fun K hK=>?_;go_simp;refine(HREC.out _ (Jh ax)).mono ?_;rintro r w1 ⟨⟨v1,cx,rfl,ba,h01,iw,dN⟩,ac⟩;dsimp only;have cT:=Nd W0 w1 (Jd (Jh (Nt)) ac);refine hK _ _ ⟨HS.out w1 cT,?_⟩;clear hK K
    try simp only [Act.put,sa1,sa2,sa3]
    refine Kb 11 ?_;refine Jj fun K hK=>?_;go_simp;refine(HREC2.out _ (Jd ax cT)).mono ?_;rintro r w2 ⟨⟨v2,cy,rfl,ao,h02,cI,dR⟩,aq⟩;dsimp only;have cF:=Nd W0 w2 (Jd cT aq);refine hK _ _ ⟨HS.out w2 cF,?_⟩;clear hK K
    try simp only [Act.put,sa1,sa2,sa3]
    refine Kh Ue ?_;obtain⟨gx,capx,rfl,gK,-,-,-,-⟩:=Kc ba h01;obtain⟨gy,capy,rfl,hgy,hgyl,-,-,hcy⟩:=Kc ao h02;have af:=cT.size;have br:=cF.size;have fe:W0.heap.size<=w1.heap.size:=af;have hgx2:W0.heap.size<=gx:=gK;have qS:w1.heap.size<=w2.heap.size:=aq.size;have gL:=hput0.later cF;have lB:cx.length<=100000:=Ua;have hyl:cy.length<=100000:=Ua;have eR:=Nb w2 w.heap.size 1 (.int .i32 e.n) (Ja cF pn);refine Qx 12 ?_;refine Ji5 (.tmp 48) (.tmp 54) 27 rfl W0.heap.size 122 _ 2 16 Tryz.underlying27 Qz rfl Ua (.slice (some ⟨gx,0,none⟩) cx.length capx) cx.length (cdC cx) gy cy.length capy (cdC cy) rfl (Jy ba aq) rfl (Jma cy) hcy (Q2 cy) Ua Ua Ua ?_;intro v7 w7 my hg7 hv7;obtain⟨A7,c7,rfl,-,-⟩:=Jv my
    have xh:∀k,k<W0.heap.size->w7.heap[k]?=w2.heap[k]?:=fun k hk=>hg7.block k Ua fun he=>by
     have he2:k=gx:=by injection he
     exact Ua
    have m0:=Nb w7 (w.heap.size+1) 0 (.slice none 0 0) (Jr (a:=⟨w.heap.size+1,0,none⟩) (xh _ bD) gL.c0);have mf:=Nc w7 (w.heap.size+1) 0 ((World.frozen?_of_block (a:=⟨w.heap.size+1,0,none⟩) (xh _ bD)).trans gL.fz);have mn:=Nb w7 w.heap.size 1 (.int .i32 e.n) (Jr (a:=⟨w.heap.size,1,none⟩) (xh w.heap.size Ua) eR);refine Qx 13 ?_;refine Jj fun K hK=>?_;go_simp;refine hK _ _ ?_;clear hK K
    try simp only [Act.put,sa1,sa2,sa3]
    refine Ki Ue ?_;have hz7:=hg7.size;have hb7:=Nd w w7 (Kou (Jd ax cF) hg7 (fun b hb=>by have h2:W0.heap.size<=b:=(ba.lt b hb).1;omega) Ua)
    have hpA:Koz (w7.setCell ⟨w.heap.size+1,0,none⟩ (.slice A7 (cx.length+cy.length) c7)) (w.heap.size+1) W0.heap.size (cx ++ cy) A7 c7:=by
     have ai:(cx ++ cy).length=cx.length+cy.length:=Uh;refine⟨?_,?_,(World.frozen?_setCell ..).trans mf,bD,Ui⟩
     ·rw [ai];exact Nx _ _ _ m0
     ·rw [ai,Kpd];exact Jbd my bD 0 _
    have hbA:Below w.heap.size w (w7.setCell ⟨w.heap.size+1,0,none⟩ (.slice A7 (cx.length+cy.length) c7)):=Below.setCell hb7 (Nat.le_succ _) _;have iF:=Kps _ _ _ _ _ _ hpA 9 e.n Ui;have kT:=Nf iF;have hw7:=lt0 w w7;have hw7b:=ltA w 1 w7;clear iF m0 mf xh gL hput0
    go_wp2_with (go_at_call 114;go_loud (refine kT.out.mono ?_;rintro r w8 ⟨rfl,⟨Ac,cc,cP⟩,haf⟩;have u0:=cP.c0))
    go_ret;exact Ko4.of_put2 (m:=e.size) cP (haf.below hbA (Nat.le_succ _) bD) (by first|rfl|(simp [Nat.add_assoc];done)|(show Value.slice Ac (cx.length+cy.length+1) cc=_;simp [Nat.add_assoc])|(simp;omega)) Ud (by have:=HSUM.out;simp;omega) (Ko5 (Kpx dN dR) yu)
  ·have hk:e.kind=4:=by simpa using k4
   have fw:e.sub.length=1:=Mg
   obtain⟨x,sd⟩:∃x,e.sub = [x]:=by
    cases hs:e.sub with
    | nil=>rw [hs] at fw;simp at fw
    | cons x l=>rw [hs] at fw;cases l with
     | nil=>exact⟨x,rfl⟩
     | cons y l=>simp at fw
   have hx0:e.sub[0]?=some x:=S6;have aj:x∈e.sub:=Sz;have hxz:=Ex.size_sub hx0;obtain⟨b,off,A',cap',rfl,q0,q1,q2,q3,hs⟩:=he.get hx0;simp only [Nat.zero_mul,Nat.add_zero] at q0 q1 q2 q3;have aC:b<w.heap.size:=Nu q0;have hrec:=fun W (hb:Below w.heap.size w W)=>ih x aj (Ex.formed_sub hf aj) (Ex.OK_sub aw aj) Ua A' cap' W (hs.later hb) (hpa.later hb);unfold exV Ko4 at hrec;have HREC:=Nf hrec;have HP0:=Nf pp;have fD:(0:Int)<(e.sub.length:Int):=Ua;have cG:0<e.sub.length:=Ua;clear hrec pp ih he hpa hk sd hx0 ai hse fw
   go_enter Tryz.func92,Tryz.ntmps92
   go_wp2_with (first
    | (go_at_call 114;go_loud (refine(Kps _ _ _ _ _ _ hpp.1 8 e.n Ua).mono ?_;rintro r w2 ⟨rfl,⟨Ac,cc,cP⟩,haf⟩;have z0:=cP.c0))
    | (go_at_call 92;go_loud (refine(HREC.out _ (Jc (Jc (Nt) _) _)).mono ?_;rintro r w1 ⟨⟨v1,cc1,rfl,ba,h01,iw,dN⟩,ac⟩;obtain⟨Av,cv,rfl,-,-⟩:=Jv ba;have ii:=(HP0.out _ _).later ac;have y0:=ii.c0;have yf:=ii.fz;have af:=ac.size;(try simp at af);have hpp:=(HP0.out _ _).put ac Uh ac.size ba;have yn:=Nb w1 w.heap.size 1 (.int .i32 e.n) (Ja ac Uc);have qZ:=lt0 w w1;have hyz1:=ltA w 1 w1)))
   go_ret;have cT:=hpp.2.below (w:=w) (Jc (Jc (Nt) _) _) (Nat.le_succ _) (Nat.lt_succ_self _);have cF:=haf.below cT (Nat.le_succ _) Uh;exact Ko4.of_put2 (m:=e.size) cP cF (show Value.slice Ac (cc1.length+1) cc=_ by simp) Uh Ui (Ko5 dN yu)
 ·have hk:e.kind=3:=by simpa using k3
  have hr:∃r:Int,(d2 e.name).getD 0=r/\0<=r/\r<=16:=by
   cases hd:d2 e.name with
   | none=>exact⟨0,rfl,Ua,Ua⟩
   | some k=>have h1:=hpa.s2.rng e.name k hd;have h2:=hpa.s2.len;exact⟨k,rfl,h1.1,Ua⟩
  obtain⟨r,xb,eV,fF⟩:=hr;have hwr:IntKind.i32.wrap r=r:=Kpo ⟨Ua,Ua⟩;have HP0:=Nf pp;have HPA:=Nf hpa;clear pp ih he hpa hk ai hse
  go_enter Tryz.func92,Tryz.ntmps92
  go_upto_region 6 with (fail)
  refine Jo fun W0 ag=>?_;have ax:=Nd w W0 Uz;have p2:=Nb W0 w.heap.size 2 (.string e.name) Uf;have hput0:Koz W0 (w.heap.size+1) (w.heap.size+2) [] none 0:=Sr;have bD:w.heap.size+1<W0.heap.size:=Vu;clear ag;have hpa0:=HPA.out.later ax;have e4:=hpa0.e4;have oz:X<W0.heap.size:=Nu e4;have hlk:=Ktd (w:=W0.drew) (t:=177) Tryz.underlying9 Tryz.underlying177 Tryz.underlying3 (Kj _) hpa0.s2.map.drew aL xb;have iF:=Kps W0.drew (w.heap.size+1) (w.heap.size+2) [] none 0 (hput0.later (Jh (Nt))) 4 r Uh;have kT:=Nf iF;have HB0:=Nf ax;clear iF hput0 hpa0 xb ax
  go_region_law (go_simp;go_wp2_with (go_at_call 114;go_loud (refine kT.out.mono ?_;rintro r' w2 ⟨rfl,⟨Ac,cc,cP⟩,haf⟩;have q0:=cP.c0)))
  all_goals
   go_wp2_with fail
   go_ret;exact Ko4.of_put (m:=e.size) cP (haf.below (Jh HB0.out) Ua Ua) Uh Ui (Ko5 Uh ⟨Ua,Ua⟩)
end
structure J1 (p:Pr):Prop where
 ok:Ke5 p
 n1:p.ins.length<=1000000
 n2:p.outs.length<=1000000
 n3:p.locals.length<=1000000
 n4:p.eqs.length<=1000000
 start:Ks p=(0,0,0)
 cells:¬16<(Jq p).length
def Ktu (w:World) (r:Ending) (w':World):Prop:=
 ((∃f:Int×Int×Int,r = .returned (.tuple #[.pointer none,fV f])/\f.2.2≠0)\/
  ∃X V1 A1 c1 D1 n1 d1 V2 A2 c2 D2 n2 d2 b3 n3 fs,r = .returned (.tuple #[.pointer (some ⟨X,0,none⟩),fV (0,0,0)])/\Ko8 w' X V1 A1 c1 D1 n1 d1 V2 A2 c2 D2 n2 d2 b3/\Ko3 Tryz.prog 9 w' b3 n3 fs/\StM w' fs/\V1.length<=16)/\Below w.heap.size w w'
theorem Yp (l:List (ByteArray×Ex)) (A:Option Addr) (cap:Nat) (p q:Pr) (a b:PrA) (w:World) (hl:Ko2 w l A cap) (hl5:l.length<=5000) (hr:∀x∈l,x.2.right=0/\x.2.OK/\x.1.size<=4096) (hg:Ql w) (hp:Kr w p a) (hq:Kr w q b) (fp:J1 p) (fq:J1 q) :
  Calls Tryz.prog 91 #[.slice A l.length cap,prV p a,prV q b] w (Ktu w):=by
 have pR:=fun W (h:Below w.heap.size w W)=>Kql p a W (hg.later h) (hp.later h) fp.ok fp.n1 fp.n2 fp.n3 fp.n4 fp.start fp.cells;have oM:=fun W (h:Below w.heap.size w W)=>Kql q b W (hg.later h) (hq.later h) fq.ok fq.n1 fq.n2 fq.n3 fq.n4 fq.start fq.cells;have hpr:=fun W (h:Below w.heap.size w W)=>Krp l A cap W (hl.later h) fun x hx=>⟨(hr x hx).1,by have:=(hr x hx).2.2;omega⟩;have gI:=@run_makeMap Tryz.prog;obtain⟨A1,c1,A2,c2,A3,c3,A4,c4⟩:=a;obtain⟨B1,e1,B2,e2,B3,e3,B4,e4⟩:=b;unfold prV Krt Kqm at *;dsimp only at *;have HLP:=Nf pR;have HLQ:=Nf oM;have HPR:=Nf hpr;have HL:=Nf hl;have HR:=Nf hr;clear pR oM hpr hl hr hg hp hq fp fq
 go_enter Tryz.func91,Tryz.ntmps91
 go_upto_region 3 with (fail)
 refine Jo fun W0 ag=>?_;have ax:=Nd w W0 (by rw [ag];exact Jc (Jc (Jc (Jc (Jc (Nt) _) _) _) _) _)
 have bD:W0.heap.size=w.heap.size+5:=Vu
 have hM0:Ko3 Tryz.prog 9 W0 (w.heap.size+1+1+1) 0 (fun _=>none):=by
  rw [ag];have h1:=(Ko3.made (P:=Tryz.prog) (k:=9) (((w.alloc (.cells #[.string p.name,.slice A1 p.ins.length c1,.slice A2 p.outs.length c2,.slice A3 p.locals.length c3,.slice A4 p.eqs.length c4] 38)).alloc (.cells #[.string q.name,.slice B1 q.ins.length e1,.slice B2 q.outs.length e2,.slice B3 q.locals.length e3,.slice B4 q.eqs.length e4] 38)).alloc (.cells #[.int .i64 0,.int .i64 0,.int .i64 0] 32)));have h2:=h1.bel (Jc (Nt) (.cells #[.slice none 0 0,.map none,.slice none 0 0,.slice none 0 0,.map none,.slice none 0 0,.map (some (w.heap.size+1+1+1))] 183));exact Lw
 have p0:=Nb W0 w.heap.size 0 (.string p.name) Uf;have p1:=Nb W0 w.heap.size 1 (.slice A1 p.ins.length c1) Uf;have p2:=Nb W0 w.heap.size 2 (.slice A2 p.outs.length c2) Uf;have p3:=Nb W0 w.heap.size 3 (.slice A3 p.locals.length c3) Uf;have p4:=Nb W0 w.heap.size 4 (.slice A4 p.eqs.length c4) Uf;have q0:=Nb W0 (w.heap.size+1) 0 (.string q.name) Uf;have q1:=Nb W0 (w.heap.size+1) 1 (.slice B1 q.ins.length e1) Uf;have q2:=Nb W0 (w.heap.size+1) 2 (.slice B2 q.outs.length e2) Uf;have q3:=Nb W0 (w.heap.size+1) 3 (.slice B3 q.locals.length e3) Uf;have q4:=Nb W0 (w.heap.size+1) 4 (.slice B4 q.eqs.length e4) Uf;have z0:=Na W0 (w.heap.size+1+1) 0 0 Uf;have z1:=Na W0 (w.heap.size+1+1) 1 0 Uf;have z2:=Na W0 (w.heap.size+1+1) 2 0 Uf;have x0:=Nb W0 (w.heap.size+1+1+1+1) 0 (.slice none 0 0) Uf;have x1:=Nb W0 (w.heap.size+1+1+1+1) 1 (.map none) Uf;have x2:=Nb W0 (w.heap.size+1+1+1+1) 2 (.slice none 0 0) Uf;have x3:=Nb W0 (w.heap.size+1+1+1+1) 3 (.slice none 0 0) Uf;have x4:=Nb W0 (w.heap.size+1+1+1+1) 4 (.map none) Uf;have x5:=Nb W0 (w.heap.size+1+1+1+1) 5 (.slice none 0 0) Uf;have x6:=Nb W0 (w.heap.size+1+1+1+1) 6 (.map (some (w.heap.size+1+1+1))) Uf;have zf:∀o,W0.frozen? ⟨w.heap.size+1+1,o,none⟩=false:=fun o=>Uf;have xf:∀o,W0.frozen? ⟨w.heap.size+1+1+1+1,o,none⟩=false:=fun o=>Uf;have tL:=lt0 w W0;have wD:=ltA w 1 W0;have hwF:w.heap.size+1+1<W0.heap.size:=Ua;have hwM:w.heap.size+1+1+1<W0.heap.size:=Ua;have kp:w.heap.size+1≠w.heap.size+1+1+1+1:=Ua;have hneF:w.heap.size+1+1≠w.heap.size+1+1+1+1:=Ua;have hneM:w.heap.size+1+1+1≠w.heap.size+1+1+1+1:=Ua;have hwX:w.heap.size+1+1+1+1<W0.heap.size:=Ua;have hzle:w.heap.size+1+1+1+1+1<=W0.heap.size:=Ua;clear ag bD gI
 go_upto_region 6 with (go_at_call 111;go_loud (refine(HLP.out W0 ax).mono ?_;rintro r u1 ⟨⟨V2,S2,s2,D2,m2,d2,C2,k2,j2,rfl,jm⟩,ac⟩;have y3:=Ja ac x3;have y4:=Ja ac x4;have y5:=Ja ac x5;have yf:∀o,u1.frozen? ⟨w.heap.size+1+1+1+1,o,none⟩=false:=fun o=>(Jf ac _ _ hwX).trans (xf o);have hu1:=ac.size;have hwX1:w.heap.size+1+1+1+1<u1.heap.size:=Ua))
 refine Jo fun W1 bt=>?_;have bC:∀k,k≠w.heap.size+1+1+1+1->W1.heap[k]?=u1.heap[k]?:=fun k hk=>by rw [bt,heap_setCell_other _ _ _ _ hk,heap_setCell_other _ _ _ _ hk,heap_setCell_other _ _ _ _ hk]
 have hb1w:=Nd w W1 (by rw [bt];exact Below.setCell (Below.setCell (Below.setCell (Jd ax ac) (show w.heap.size<=w.heap.size+1+1+1+1 by omega) _) (show w.heap.size<=w.heap.size+1+1+1+1 by omega) _) (show w.heap.size<=w.heap.size+1+1+1+1 by omega) _)
 have af:u1.heap.size=W1.heap.size:=Dr;have ho2':Off W0.heap.size none W1 (fun W=>Kpc W V2 S2 s2 D2 m2 d2):=by rw [bt];exact Kdv (Kdv (Kdv jm hwX _ _) hwX _ _) hwX _ _
 have hkeep1:∀k,k<W0.heap.size->k≠w.heap.size+1+1+1+1->W1.heap[k]?=W0.heap[k]?:=fun k h1 h2=>(bC k h2).trans (ac.block k h1);have w3c:=Nb W1 (w.heap.size+1+1+1+1) 3 (.slice S2 V2.length s2) (by rw [bt];exact(J5 _ _ _ _ _ Ua).trans ((J5 _ _ _ _ _ Ua).trans (Nx _ _ _ y3)))
 have w4c:=Nb W1 (w.heap.size+1+1+1+1) 4 (.map (some D2)) (by rw [bt];exact(J5 _ _ _ _ _ Ua).trans (Nx _ _ _ ((J5 _ _ _ _ _ Ua).trans y4)))
 have hoX:∀o v,o≠3->o≠4->o≠5->W0.cell? ⟨w.heap.size+1+1+1+1,o,none⟩=some v->W1.cell? ⟨w.heap.size+1+1+1+1,o,none⟩=some v:=fun o v h3 h4 h5 h=>by rw [bt];exact(J5 _ _ _ _ _ h5).trans ((J5 _ _ _ _ _ h4).trans ((J5 _ _ _ _ _ h3).trans (Ja ac h)))
 have xf1:∀o,W1.frozen? ⟨w.heap.size+1+1+1+1,o,none⟩=false:=fun o=>by rw [bt];exact(World.frozen?_setCell ..).trans ((World.frozen?_setCell ..).trans ((World.frozen?_setCell ..).trans (yf o)))
 have hzz1:W0.heap.size<=W1.heap.size:=Ua;replace q0:=Jr (a:=⟨w.heap.size+1,0,none⟩) (hkeep1 _ wD kp) q0;replace q1:=Jr (a:=⟨w.heap.size+1,1,none⟩) (hkeep1 _ wD kp) q1;replace q2:=Jr (a:=⟨w.heap.size+1,2,none⟩) (hkeep1 _ wD kp) q2;replace q3:=Jr (a:=⟨w.heap.size+1,3,none⟩) (hkeep1 _ wD kp) q3;replace q4:=Jr (a:=⟨w.heap.size+1,4,none⟩) (hkeep1 _ wD kp) q4;have y0:=hoX 0 _ Ua Ua Ua x0;have y1:=hoX 1 _ Ua Ua Ua x1;have y2:=hoX 2 _ Ua Ua Ua x2;have y6:=hoX 6 _ Ua Ua Ua x6;have hwX2:w.heap.size+1+1+1+1<W1.heap.size:=Ua;have hw12:=ltA w 1 W1;have sK:=Nf ho2';have HK1:=Nf hkeep1;have HB1:=Nf hb1w;clear bt bC af jm ho2' hkeep1 hoX ac hb1w y3 y4 y5 yf x0 x1 x2 x3 x4 x5 x6 p0 p1 p2 p3 p4 hu1 hwX1
 go_upto_region 9 with (go_at_call 111;go_loud (refine(HLQ.out W1 HB1.out).mono ?_;rintro r u2 ⟨⟨V1,S1,s1,D1,m1,d1,C1,k1,j1,rfl,ln⟩,aq⟩;have t0:=Ja aq y0;have t1:=Ja aq y1;have t2:=Ja aq y2;have tf:∀o,u2.frozen? ⟨w.heap.size+1+1+1+1,o,none⟩=false:=fun o=>(Jf aq _ _ hwX2).trans (xf1 o);have hu2:=aq.size;have hwX3:w.heap.size+1+1+1+1<u2.heap.size:=Ua))
 refine Jo fun W2 gi=>?_;have bd:∀k,k≠w.heap.size+1+1+1+1->W2.heap[k]?=u2.heap[k]?:=fun k hk=>by rw [gi,heap_setCell_other _ _ _ _ hk,heap_setCell_other _ _ _ _ hk,heap_setCell_other _ _ _ _ hk]
 have hb2w:=Nd w W2 (by rw [gi];exact Qq _ _ _ (Jd HB1.out aq) (show w.heap.size<=w.heap.size+1+1+1+1 by omega))
 have br:u2.heap.size=W2.heap.size:=by rw [gi];simp
 have ho1':Off W1.heap.size none W2 (fun W=>Kpc W V1 S1 s1 D1 m1 d1):=by rw [gi];exact Kdv (Kdv (Kdv ln hwX2 _ _) hwX2 _ _) hwX2 _ _
 have ho2':Off W0.heap.size none W2 (fun W=>Kpc W V2 S2 s2 D2 m2 d2):=by rw [gi];exact Kdv (Kdv (Kdv (sK.out.later aq) hwX _ _) hwX _ _) hwX _ _
 have bW:=Jp5 (.slice S1 V1.length s1) (.map (some D1)) (.slice C1 k1 j1) t0 t1 t2;have v0:=Nb W2 (w.heap.size+1+1+1+1) 0 (.slice S1 V1.length s1) (by rw [gi];exact bW.1)
 have v1:=Nb W2 (w.heap.size+1+1+1+1) 1 (.map (some D1)) (by rw [gi];exact bW.2.1)
 have v3:=Nb W2 (w.heap.size+1+1+1+1) 3 (.slice S2 V2.length s2) (by rw [gi];exact(J5 _ _ _ _ _ Ua).trans ((J5 _ _ _ _ _ Ua).trans ((J5 _ _ _ _ _ Ua).trans (Ja aq w3c))))
 have v4:=Nb W2 (w.heap.size+1+1+1+1) 4 (.map (some D2)) (by rw [gi];exact(J5 _ _ _ _ _ Ua).trans ((J5 _ _ _ _ _ Ua).trans ((J5 _ _ _ _ _ Ua).trans (Ja aq w4c))))
 have v6:=Nb W2 (w.heap.size+1+1+1+1) 6 (.map (some (w.heap.size+1+1+1))) (by rw [gi];exact(J5 _ _ _ _ _ Ua).trans ((J5 _ _ _ _ _ Ua).trans ((J5 _ _ _ _ _ Ua).trans (Ja aq y6))))
 have hkeep2:∀k,k<W0.heap.size->k≠w.heap.size+1+1+1+1->W2.heap[k]?=W0.heap[k]?:=fun k h1 h2=>(bd k h2).trans ((aq.block k Ua).trans (HK1.out k h1 h2));have hM2:Ko3 Tryz.prog 9 W2 (w.heap.size+1+1+1) 0 (fun _=>none):=hM0.keep1 (hkeep2 _ hwM hneM);have g0:=Jr (a:=⟨w.heap.size+1+1,0,none⟩) (hkeep2 _ hwF hneF) z0;have g1:=Jr (a:=⟨w.heap.size+1+1,1,none⟩) (hkeep2 _ hwF hneF) z1;have g2:=Jr (a:=⟨w.heap.size+1+1,2,none⟩) (hkeep2 _ hwF hneF) z2;have gf:∀o,W2.frozen? ⟨w.heap.size+1+1,o,none⟩=false:=fun o=>(World.frozen?_of_block (a:=⟨w.heap.size+1+1,o,none⟩) (hkeep2 _ hwF hneF)).trans (zf o);have kG:W0.heap.size<=W2.heap.size:=Ua
 have hpoff:Off (w.heap.size+1+1+1+1) none W2 (fun W=>Ko8 W (w.heap.size+1+1+1+1) V1 S1 s1 D1 m1 d1 V2 S2 s2 D2 m2 d2 (w.heap.size+1+1+1)):=fun W' lE=>by
  have hXb:=lE (w.heap.size+1+1+1+1) (Ns _) Ua Uh;exact⟨Jr (a:=⟨w.heap.size+1+1+1+1,0,none⟩) hXb v0,Jr (a:=⟨w.heap.size+1+1+1+1,1,none⟩) hXb v1,Jr (a:=⟨w.heap.size+1+1+1+1,3,none⟩) hXb v3,Jr (a:=⟨w.heap.size+1+1+1+1,4,none⟩) hXb v4,Jr (a:=⟨w.heap.size+1+1+1+1,6,none⟩) hXb v6,ho1' W' fun k h1 h2 h3=>lE k Ua h2 h3,ho2' W' fun k h1 h2 h3=>lE k Ua h2 h3⟩
 have HPO:=Nf hpoff;have kj:=Nf hM2;have HB2:=Nf hb2w;have hV1l:=ho1'.here.len;clear gi bd br ln ho1' ho2' bW hkeep2 hM2 hpoff aq hb2w t0 t1 t2 tf y0 y1 y2 y6 v0 v1 v3 v4 v6 w3c w4c z0 z1 z2 zf xf xf1 q0 q1 q2 q3 q4 hM0 sK HK1 hu2 hwX3
 go_upto_region 10 with (go_at_call 112;go_loud (refine(HPR.out W2 HB2.out).mono ?_;rintro r W3 ⟨⟨ps,pe,rfl⟩,aM⟩))
 have f0:=Ja aM g0;have f1:=Ja aM g1;have f2:=Ja aM g2;have fe:=aM.size;have hwF2:w.heap.size+1+1<W2.heap.size:=Ua;have ff:∀o,W3.frozen? ⟨w.heap.size+1+1,o,none⟩=false:=fun o=>(Jf aM _ _ hwF2).trans (gf o);have rH:=Jd HB2.out aM
 by_cases lG:pe=0
 ·subst lG;have hpo3:=HPO.out.later aM;have hM3:=kj.out.bel aM;have bI:=HL.out.1;have aD:=HL.out.2.1;unfold maxLen at aD;have hF3:w.heap.size+1+1<W3.heap.size:=Ua;have hM3s:w.heap.size+1+1+1<W3.heap.size:=Ua;have hX3s:w.heap.size+1+1+1+1<W3.heap.size:=Ua;have HPO3:=Nf hpo3;have HM3:=Nf hM3;have HB3:=Nf rH;clear hpo3 hM3 rH HPO kj aM HLP HLQ HPR g0 g1 g2 gf
  go_wp2_with fail
  go_loopw [53] (fun i wr=>∃(k n3:Nat) (fs:ByteArray->Option Value),k<=l.length/\i = .int .i64 k/\n3<=k/\Hid (Ko3 Tryz.prog 9 wr (w.heap.size+1+1+1) n3 fs)/\Hid (StM w fs)/\Hid (W3.grownBy wr (some (w.heap.size+1+1+1)))) (fun i _=>l.length-(intOf i).toNat)
  case atStart=>exact⟨0,0,_,Np,rfl,Ns _,HM3,Nf (fun s v h=>by cases h),Nf ⟨rfl,rfl,rfl,Ns _,fun _ _ _=>rfl⟩⟩
  case round=>
   obtain⟨k,n3,fs,hk,rfl,sR,hm,cP,bB⟩:=hrel;have eC:=bB.out.size;have hbk:∀b,b<W3.heap.size->b≠w.heap.size+1+1+1->wr.heap[b]?=W3.heap[b]?:=fun b h1 h2=>bB.out.block b h1 (by intro he;injection he with he;exact h2 he);have rq:=Nd w wr (Kou HB3.out bB.out (fun b hb=>Uv) Ua);have hpa:Ko8 wr (w.heap.size+1+1+1+1) V1 S1 s1 D1 m1 d1 V2 S2 s2 D2 m2 d2 (w.heap.size+1+1+1):=HPO3.out wr fun b h1 h2 _=>hbk b h2 Ua;have hneFM:w.heap.size+1+1≠w.heap.size+1+1+1:=Ua;have k0:=Jr (a:=⟨w.heap.size+1+1,0,none⟩) (hbk _ hF3 hneFM) f0;have k1:=Jr (a:=⟨w.heap.size+1+1,1,none⟩) (hbk _ hF3 hneFM) f1;have k2:=Jr (a:=⟨w.heap.size+1+1,2,none⟩) (hbk _ hF3 hneFM) f2;have kf:∀o,wr.frozen? ⟨w.heap.size+1+1,o,none⟩=false:=fun o=>(World.frozen?_of_block (a:=⟨w.heap.size+1+1,o,none⟩) (hbk _ hF3 hneFM)).trans (ff o);have hFr:w.heap.size+1+1<wr.heap.size:=Ua;have hXr:w.heap.size+1+1+1+1<wr.heap.size:=Ua
   by_cases am:k<l.length
   ·obtain⟨x,hx,aj,-⟩:=Kl am;obtain⟨bb,off,E1,ec1,hA,aH,hcel⟩:=HL.out.get hx;obtain⟨dC,hxo,xm⟩:=HR.out x aj;have d0:=Ja rq hcel.c0;have d1':=Ja rq hcel.c1;have d2':=Ja rq hcel.c2;have d3:=Ja rq hcel.c3;have d4:=Ja rq hcel.c4;have dT:x.1.size<=maxLen:=Uo;have hki:(k:Int)<(l.length:Int):=Ua;have aA:Below wr.heap.size wr (wr.alloc (.cells #[.string x.1,.int .i64 x.2.kind,.int .i32 x.2.n,.string x.2.name,.slice E1 x.2.sub.length ec1] 173)):=Jc (Nt) _;have hline:=Ksi x E1 ec1 n3 fs dT dC ((hcel.sub.later rq).later aA) (hpa.later aA) (hm.out.bel aA) ((cP.out.later rq).later aA);unfold stV at hline;have HLN:=Nf hline;have HPA:=Nf hpa;have rk:=Nf hcel;have gg:=Nf dC;have HBR:=Nf rq;have HBA:=Nf aA;subst hA;clear hx hline hpa hcel dC rq aA hbk
    go_upto_region 16 with (go_at_call 113;go_loud (refine HLN.out.mono ?_;rintro r w4 ⟨⟨e,rfl⟩,ei⟩;have qS:=ei.size;(try simp at qS)))
    have hb4r:=Jd HBA.out ei;have h0:=Ja hb4r k0;have h1:=Ja hb4r k1;have h2:=Ja hb4r k2;have hF4:w.heap.size+1+1<w4.heap.size:=Ua;have hf:∀o,w4.frozen? ⟨w.heap.size+1+1,o,none⟩=false:=fun o=>(Jf hb4r _ _ hFr).trans (kf o);have hbw4:=Jd HBR.out hb4r
    by_cases he:e=0
    ·subst he;have c0:=Nb w4 wr.heap.size 0 (.string x.1) (Ja ei Uc);have c1':=Na w4 wr.heap.size 1 x.2.kind (Ja ei Uc);have c2':=Nb w4 wr.heap.size 2 (.int .i32 x.2.n) (Ja ei Uc);have c3':=Nb w4 wr.heap.size 3 (.string x.2.name) (Ja ei Uc);have c4':=Nb w4 wr.heap.size 4 (.slice E1 x.2.sub.length ec1) (Ja ei Uc);have c6:=Nb w4 (w.heap.size+1+1+1+1) 6 (.map (some (w.heap.size+1+1+1))) (Ja hb4r HPA.out.e6);have sS:=hm.out.bel hb4r;have HM4:=Nf sS;clear sS
     go_upto_region 18 with (fail)
     refine Kd (fun V:World=>V.cell? ⟨w.heap.size+1+1+1+1,6,none⟩=some (.map (some (w.heap.size+1+1+1)))/\V.cell? ⟨wr.heap.size,0,none⟩=some (.string x.1)/\V.cell? ⟨wr.heap.size,1,none⟩=some (.int .i64 x.2.kind)/\V.cell? ⟨wr.heap.size,2,none⟩=some (.int .i32 x.2.n)/\V.cell? ⟨wr.heap.size,3,none⟩=some (.string x.2.name)/\V.cell? ⟨wr.heap.size,4,none⟩=some (.slice E1 x.2.sub.length ec1)) 7 1 Ue Gp ?_;simp only [List.size_toArray,Nl,Nm,Nat.zero_add,Nat.reduceAdd];have ar:w4.drew.cell? ⟨w.heap.size+1+1+1+1,6,none⟩=some (.map (some (w.heap.size+1+1+1)))/\w4.drew.cell? ⟨wr.heap.size,0,none⟩=some (.string x.1)/\w4.drew.cell? ⟨wr.heap.size,1,none⟩=some (.int .i64 x.2.kind)/\w4.drew.cell? ⟨wr.heap.size,2,none⟩=some (.int .i32 x.2.n)/\w4.drew.cell? ⟨wr.heap.size,3,none⟩=some (.string x.2.name)/\w4.drew.cell? ⟨wr.heap.size,4,none⟩=some (.slice E1 x.2.sub.length ec1):=⟨c6,c0,c1',c2',c3',c4'⟩;refine Ji 0 ar ?_;refine Ji 1 ar ?_;refine Ji 2 ar ?_;refine Ji 3 ar ?_;refine Ji 4 ar ?_;refine Ji 5 ar ?_;refine Ji 6 ar ?_;refine Kh Ue ?_;refine Qx 7 ?_;refine Ktq (.tmp 69) (.tmp 71) (.tmp 72) 181 rfl Tryz.underlying9 Tryz.underlying181 (w.heap.size+1+1+1) n3 fs x.1 (stV x E1 ec1) rfl (HM4.out.bel (Jh (Nt))) Ua rfl rfl dT ?_;intro w7 hm7 hg7;refine Ki Ue ?_;have HM7:=Nf hm7;have HG7:=Nf hg7;clear hm7 hg7
     go_wp2_with fail
     go_roundw
     case rel=>
      refine⟨k+1,n3+1,Jki fs x.1 (stV x E1 ec1),Ua,Uw,Ua,HM7,Nf (fun s v hv=>?_),Nf (Qn bB.out (Qn (Jat (Jh hb4r)) HG7.out))⟩;unfold Jki at hv
      split at hv
      ·injection hv with hv;exact⟨x,E1,ec1,hv.symm,gg.out,hxo,rk.out.sub⟩
      ·exact cP.out s v hv
     case measure=>simp [intOf];omega
    ·have hei:(e != 0)=true:=F8;clear HM3
     go_wp2_with fail
     refine Nv (v:= .tuple #[.pointer none,fV (3,(k:Int),e)]) Mz rfl ⟨.inl ⟨(3,(k:Int),e),rfl,he⟩,Qq _ _ _ hbw4 (show w.heap.size<=w.heap.size+1+1 by omega)⟩
   ·obtain rfl:k=l.length:=Ua;have HBR:=Nf rq;have HBK:=Nf hbk;have hneM2:w.heap.size+1+1+1≠w.heap.size+1+1:=Ua;clear hpa rq hbk HM3
    go_wp2_with fail
    refine Nv (v:= .tuple #[.pointer (some ⟨w.heap.size+1+1+1+1,0,none⟩),fV (0,0,0)]) Mz rfl ?_;have bH:=Qq (.int .i64 0) (.int .i64 0) (.int .i64 0) HBR.out (show w.heap.size<=w.heap.size+1+1 by omega);refine⟨.inr ⟨_,V1,S1,s1,D1,m1,d1,V2,S2,s2,D2,m2,d2,_,n3,fs,rfl,HPO3.out _ fun b h1 h2 _=>?_,hm.out.keep1 ((heap_setCell_other _ _ _ _ hneM2).trans ((heap_setCell_other _ _ _ _ hneM2).trans (heap_setCell_other _ _ _ _ hneM2))),cP.out.later bH,hV1l⟩,bH⟩;have hbF:b≠w.heap.size+1+1:=Ua;exact(heap_setCell_other _ _ _ _ hbF).trans ((heap_setCell_other _ _ _ _ hbF).trans ((heap_setCell_other _ _ _ _ hbF).trans (HBK.out b h2 Ua)))
 ·have hpei:(pe != 0)=true:=by simpa using lG
  go_wp2_with fail
  refine Nv (v:= .tuple #[.pointer none,fV (4,0,pe)]) Mz rfl ⟨.inl ⟨(4,0,pe),rfl,lG⟩,Qq _ _ _ rH (show w.heap.size<=w.heap.size+1+1 by omega)⟩
end Go.Proofs.YtdgjplldlfeolaaGreatDoor
