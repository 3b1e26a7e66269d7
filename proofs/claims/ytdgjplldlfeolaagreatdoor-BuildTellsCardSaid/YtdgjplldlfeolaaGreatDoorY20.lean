/- Lemmas. -/
import Derived.Test.YtdgjplldlfeolaaGreatDoorMac
import Derived.Test.YtdgjplldlfeolaaGreatDoorY16
import Derived.Deep.RegionLaw
import Derived.Test.YtdgjplldlfeolaaGreatDoorY08
import Derived.Test.YtdgjplldlfeolaaGreatDoorY13
set_option linter.unusedVariables false
set_option linter.unusedSimpArgs false
set_option maxRecDepth 100000
set_option maxHeartbeats 64000000
namespace Go.Proofs.YtdgjplldlfeolaaGreatDoor
open Go.RowKit Go.Sort
theorem Kdv {b2 c:Nat} {w:World} {P:World->Prop} (h:Off b2 none w P) (hc:c<b2) (o:Nat) (v:Value):Off b2 none (w.setCell ⟨c,o,none⟩ v) P:=
 h.grow (fun k h1 _ _=>heap_setCell_other _ _ _ _ (by show k≠c;omega)) Uh (.inl rfl)
def EqP (B:Nat) (ts:List Tk) (A:Option Addr) (cap:Nat) (W:World) (x:Qe×St) (r:Ending) (W':World):Prop:=
 (∃A1 c1 A2 c2,r = .returned (qeV x.1 A1 c1 A2 c2)/\Off W.heap.size none W' (fun V=>Jt V x.1.first A1 c1/\Jt V x.1.e A2 c2))/\X2 B ts A cap W' x.2/\J6 (fun b=>b=B) W W'
theorem Off.and {base:Nat} {g:Option Nat} {w:World} {P Q:World->Prop} (h:Off base g w P) (h':Off base g w Q):Off base g w (fun V=>P V/\Q V):=fun V hV=>⟨h V hV,h' V hV⟩
theorem Kjv {B:Nat} {ts:List Tk} {A:Option Addr} {cap:Nat} {st st1 st2 st4:St} {nm:ByteArray} {y:Ex} {W:World} (h:X2 B ts A cap W st) (ai:ts.length<=100000)
  (aL:∀W',X2 B ts A cap W' st->Calls Tryz.prog 38 #[.pointer (some ⟨B,0,none⟩)] W' (Keu B ts A cap W' (.string nm) st1)) (eu:∀W',X2 B ts A cap W' st1->Calls Tryz.prog 37 #[.pointer (some ⟨B,0,none⟩),.string ⟨#[61]⟩] W' (Keu B ts A cap W' (.tuple #[]) st2))
  (h1:Kc5 ts st2 ⟨#[112,114,101]⟩=true) (xn:∀W',X2 B ts A cap W' ⟨st2.pos+1,st2.bad⟩->Calls Tryz.prog 43 #[.pointer (some ⟨B,0,none⟩)] W' (Kdq B ts A cap W' (y,st4))) :
  Calls Tryz.prog 20 #[.pointer (some ⟨B,0,none⟩)] W (EqP B ts A cap W (⟨nm,2,Ex.zero,y⟩,Kda ts st4 ⟨#[59]⟩)):=by
 have cm:=h.lt;have aS:W.heap.size≠B:=Ua;have sR:=fun W' (h':X2 B ts A cap W' st4)=>Koc h' ⟨#[59]⟩ ai;generalize Kda ts st4 ⟨#[59]⟩=st5 at sR ⊢;unfold Kdq Ke9 exV at xn;dsimp only at xn ⊢;have HP:=Nf h;clear h
 go_enter Tryz.func20,Tryz.ntmps20
 go_wp2_with (first
  | (go_at_call 38;go_loud (refine(aL _ (HP.out.alloc _)).mono ?_;rintro r w1 ⟨rfl,ii,cD⟩;have af:=cD.size;(try simp at af);have al:w1.heap.size≠B:=Ua;have vb:B<w1.heap.size:=Ua))
  | (go_at_call_of 37 (Value.string ⟨#[61]⟩);go_loud (refine(eu _ (ii.alloc _)).mono ?_;rintro r w2 ⟨rfl,gL,dz⟩))
  | (go_at_call 18;go_loud (refine(Kdr gL h1 ai).mono ?_;rintro r w4 ⟨rfl,bT,hk⟩;have iA:=dz.trans' hk;have hcg:=K1 iA;have hfg:=kfz iA;have qS:=iA.size;(try simp at qS);have us:=lt0 W w4;have va:=lt0 w1 w4))
  | (go_at_call 43;go_loud (refine(xn _ (bT.beyond (c:=w1.heap.size) Ua 1 (.int .i64 2))).mono ?_;rintro r w5 ⟨⟨_,rfl,Ay,cy,rfl,hoy⟩,dv,bb⟩;have yx:=bb.size;(try simp at yx);have hy5a:=lt0 W w5;have hy5b:=lt0 w1 w5;have g0:=Nb w5 w1.heap.size 0 (.string nm) ((K1 bb _ _ al Ud).trans Uc);have g1:=Na w5 w1.heap.size 1 2 ((K1 bb _ _ al Ud).trans Uc);have g2:=Na w5 w1.heap.size 2 0 ((K1 bb _ _ al Ud).trans Uc);have g3:=Nb w5 w1.heap.size 3 (.int .i32 0) ((K1 bb _ _ al Ud).trans Uc);have g4:=Nb w5 w1.heap.size 4 (.string ⟨#[]⟩) ((K1 bb _ _ al Ud).trans Uc);have g5:=Nb w5 w1.heap.size 5 (.slice none 0 0) ((K1 bb _ _ al Ud).trans Uc);have g6:=Na w5 w1.heap.size 6 0 ((K1 bb _ _ al Ud).trans Uc);have g7:=Nb w5 w1.heap.size 7 (.int .i32 0) ((K1 bb _ _ al Ud).trans Uc);have g8:=Nb w5 w1.heap.size 8 (.string ⟨#[]⟩) ((K1 bb _ _ al Ud).trans Uc);have g9:=Nb w5 w1.heap.size 9 (.slice none 0 0) ((K1 bb _ _ al Ud).trans Uc);have gf:∀o,w5.frozen? ⟨w1.heap.size,o,none⟩=false:=fun o=>(kfz bb _ _ al Ud).trans Uc))
  | (go_at_call 37;go_loud (have hp5':=(((dv.beyond (c:=w1.heap.size) Ua 6 (.int .i64 y.kind)).beyond (c:=w1.heap.size) Ua 7 (.int .i32 y.n)).beyond (c:=w1.heap.size) Ua 8 (.string y.name)).beyond (c:=w1.heap.size) Ua 9 (.slice Ay y.sub.length cy);refine(sR _ hp5').mono ?_;rintro r w6 ⟨rfl,tj,cu⟩;have bn:=((((((cD.trans' (K2 iA)).fresh (c:=w1.heap.size) Ud _ _).trans' bb).fresh (c:=w1.heap.size) Ud _ _).fresh (c:=w1.heap.size) Ud _ _).fresh (c:=w1.heap.size) Ud _ _).fresh (c:=w1.heap.size) Ud _ _ |>.trans' cu;have hz6:=cu.size;(try simp at hz6);have pz:=lt0 W w6;have hy6b:=lt0 w1 w6;have z0:=Nb w6 W.heap.size 0 (.string ⟨#[]⟩) ((K1 bn _ _ aS Ud).trans Uc);have z1:=Na w6 W.heap.size 1 0 ((K1 bn _ _ aS Ud).trans Uc);have z2:=Na w6 W.heap.size 2 0 ((K1 bn _ _ aS Ud).trans Uc);have z3:=Nb w6 W.heap.size 3 (.int .i32 0) ((K1 bn _ _ aS Ud).trans Uc);have z4:=Nb w6 W.heap.size 4 (.string ⟨#[]⟩) ((K1 bn _ _ aS Ud).trans Uc);have z5:=Nb w6 W.heap.size 5 (.slice none 0 0) ((K1 bn _ _ aS Ud).trans Uc);have z6:=Na w6 W.heap.size 6 0 ((K1 bn _ _ aS Ud).trans Uc);have z7:=Nb w6 W.heap.size 7 (.int .i32 0) ((K1 bn _ _ aS Ud).trans Uc);have z8:=Nb w6 W.heap.size 8 (.string ⟨#[]⟩) ((K1 bn _ _ aS Ud).trans Uc);have z9:=Nb w6 W.heap.size 9 (.slice none 0 0) ((K1 bn _ _ aS Ud).trans Uc);have fz:∀o,w6.frozen? ⟨W.heap.size,o,none⟩=false:=fun o=>(kfz bn _ _ aS Uh).trans Uc;have k0:=Nb w6 w1.heap.size 0 (.string nm) ((K1 cu _ _ al Ud).trans Uc);have k1:=Na w6 w1.heap.size 1 2 ((K1 cu _ _ al Ud).trans Uc);have k2:=Na w6 w1.heap.size 2 0 ((K1 cu _ _ al Ud).trans Uc);have k3:=Nb w6 w1.heap.size 3 (.int .i32 0) ((K1 cu _ _ al Ud).trans Uc);have k4:=Nb w6 w1.heap.size 4 (.string ⟨#[]⟩) ((K1 cu _ _ al Ud).trans Uc);have k5:=Nb w6 w1.heap.size 5 (.slice none 0 0) ((K1 cu _ _ al Ud).trans Uc);have k6:=Na w6 w1.heap.size 6 y.kind ((K1 cu _ _ al Ud).trans Uc);have k7:=Nb w6 w1.heap.size 7 (.int .i32 y.n) ((K1 cu _ _ al Ud).trans Uc);have k8:=Nb w6 w1.heap.size 8 (.string y.name) ((K1 cu _ _ al Ud).trans Uc);have k9:=Nb w6 w1.heap.size 9 (.slice Ay y.sub.length cy) ((K1 cu _ _ al Ud).trans Uc))))
 refine Nv (v:=qeV ⟨nm,2,Ex.zero,y⟩ none 0 Ay cy) Le rfl ?_;refine⟨⟨none,0,Ay,cy,rfl,Off.less (base0:=W.heap.size+1) ?_ Ua⟩,?_,?_⟩
 ·exact Bh
 ·exact Ua1
 ·exact Uat
theorem Kjm {B:Nat} {ts:List Tk} {A:Option Addr} {cap:Nat} {st st1 st2 st4:St} {nm:ByteArray} {y:Ex} {W:World} (h:X2 B ts A cap W st) (ai:ts.length<=100000)
  (aL:∀W',X2 B ts A cap W' st->Calls Tryz.prog 38 #[.pointer (some ⟨B,0,none⟩)] W' (Keu B ts A cap W' (.string nm) st1)) (eu:∀W',X2 B ts A cap W' st1->Calls Tryz.prog 37 #[.pointer (some ⟨B,0,none⟩),.string ⟨#[61]⟩] W' (Keu B ts A cap W' (.tuple #[]) st2))
  (h1:Kc5 ts st2 ⟨#[112,114,101]⟩=false) (hfi:∀W',X2 B ts A cap W' st2->Calls Tryz.prog 42 #[.pointer (some ⟨B,0,none⟩)] W' (Kf4 B ts A cap W' st2 none)) (xn:∀W',X2 B ts A cap W' st2->Calls Tryz.prog 43 #[.pointer (some ⟨B,0,none⟩)] W' (Kdq B ts A cap W' (y,st4))) :
  Calls Tryz.prog 20 #[.pointer (some ⟨B,0,none⟩)] W (EqP B ts A cap W (⟨nm,0,Ex.zero,y⟩,Kda ts st4 ⟨#[59]⟩)):=by
 have cm:=h.lt;have aS:W.heap.size≠B:=Ua;have sR:=fun W' (h':X2 B ts A cap W' st4)=>Koc h' ⟨#[59]⟩ ai;generalize Kda ts st4 ⟨#[59]⟩=st5 at sR ⊢;unfold Kdq Ke9 exV at xn;unfold Kf4 exV at hfi;dsimp only at xn hfi ⊢;have HP:=Nf h;clear h
 go_enter Tryz.func20,Tryz.ntmps20
 go_wp2_with (first
  | (go_at_call 38;go_loud (refine(aL _ (HP.out.alloc _)).mono ?_;rintro r w1 ⟨rfl,ii,cD⟩;have af:=cD.size;(try simp at af);have al:w1.heap.size≠B:=Ua;have vb:B<w1.heap.size:=Ua))
  | (go_at_call_of 37 (Value.string ⟨#[61]⟩);go_loud (refine(eu _ (ii.alloc _)).mono ?_;rintro r w2 ⟨rfl,gL,dz⟩))
  | (go_at_call 18;go_loud (refine(Kdf gL h1 ai).mono ?_;rintro r w3 ⟨rfl,ip,dU⟩))
  | (go_at_call 42;go_loud (refine(hfi _ ip).mono ?_;rintro r w4 ⟨⟨rfl,bT⟩,hk⟩;have iA:=dz.trans' (dU.trans' hk);have hcg:=K1 iA;have hfg:=kfz iA;have qS:=iA.size;(try simp at qS);have us:=lt0 W w4;have va:=lt0 w1 w4))
  | (go_at_call 43;go_loud (refine(xn _ (bT.alloc _)).mono ?_;rintro r w5 ⟨⟨_,rfl,Ay,cy,rfl,hoy⟩,dv,bb⟩;have yx:=bb.size;(try simp at yx);have hy5a:=lt0 W w5;have hy5b:=lt0 w1 w5;have g0:=Nb w5 w1.heap.size 0 (.string nm) ((K1 bb _ _ al Ud).trans Uc);have g1:=Na w5 w1.heap.size 1 0 ((K1 bb _ _ al Ud).trans Uc);have g2:=Na w5 w1.heap.size 2 0 ((K1 bb _ _ al Ud).trans Uc);have g3:=Nb w5 w1.heap.size 3 (.int .i32 0) ((K1 bb _ _ al Ud).trans Uc);have g4:=Nb w5 w1.heap.size 4 (.string ⟨#[]⟩) ((K1 bb _ _ al Ud).trans Uc);have g5:=Nb w5 w1.heap.size 5 (.slice none 0 0) ((K1 bb _ _ al Ud).trans Uc);have g6:=Na w5 w1.heap.size 6 0 ((K1 bb _ _ al Ud).trans Uc);have g7:=Nb w5 w1.heap.size 7 (.int .i32 0) ((K1 bb _ _ al Ud).trans Uc);have g8:=Nb w5 w1.heap.size 8 (.string ⟨#[]⟩) ((K1 bb _ _ al Ud).trans Uc);have g9:=Nb w5 w1.heap.size 9 (.slice none 0 0) ((K1 bb _ _ al Ud).trans Uc);have gf:∀o,w5.frozen? ⟨w1.heap.size,o,none⟩=false:=fun o=>(kfz bb _ _ al Ud).trans Uc))
  | (go_at_call 37;go_loud (have hp5':=(((dv.beyond (c:=w1.heap.size) Ua 6 (.int .i64 y.kind)).beyond (c:=w1.heap.size) Ua 7 (.int .i32 y.n)).beyond (c:=w1.heap.size) Ua 8 (.string y.name)).beyond (c:=w1.heap.size) Ua 9 (.slice Ay y.sub.length cy);refine(sR _ hp5').mono ?_;rintro r w6 ⟨rfl,tj,cu⟩;have bn:=((((((cD.trans' (K2 iA)).alloc _).trans' bb).fresh (c:=w1.heap.size) Ud _ _).fresh (c:=w1.heap.size) Ud _ _).fresh (c:=w1.heap.size) Ud _ _).fresh (c:=w1.heap.size) Ud _ _ |>.trans' cu;have hz6:=cu.size;(try simp at hz6);have pz:=lt0 W w6;have hy6b:=lt0 w1 w6;have z0:=Nb w6 W.heap.size 0 (.string ⟨#[]⟩) ((K1 bn _ _ aS Ud).trans Uc);have z1:=Na w6 W.heap.size 1 0 ((K1 bn _ _ aS Ud).trans Uc);have z2:=Na w6 W.heap.size 2 0 ((K1 bn _ _ aS Ud).trans Uc);have z3:=Nb w6 W.heap.size 3 (.int .i32 0) ((K1 bn _ _ aS Ud).trans Uc);have z4:=Nb w6 W.heap.size 4 (.string ⟨#[]⟩) ((K1 bn _ _ aS Ud).trans Uc);have z5:=Nb w6 W.heap.size 5 (.slice none 0 0) ((K1 bn _ _ aS Ud).trans Uc);have z6:=Na w6 W.heap.size 6 0 ((K1 bn _ _ aS Ud).trans Uc);have z7:=Nb w6 W.heap.size 7 (.int .i32 0) ((K1 bn _ _ aS Ud).trans Uc);have z8:=Nb w6 W.heap.size 8 (.string ⟨#[]⟩) ((K1 bn _ _ aS Ud).trans Uc);have z9:=Nb w6 W.heap.size 9 (.slice none 0 0) ((K1 bn _ _ aS Ud).trans Uc);have fz:∀o,w6.frozen? ⟨W.heap.size,o,none⟩=false:=fun o=>(kfz bn _ _ aS Uh).trans Uc;have k0:=Nb w6 w1.heap.size 0 (.string nm) ((K1 cu _ _ al Ud).trans Uc);have k1:=Na w6 w1.heap.size 1 0 ((K1 cu _ _ al Ud).trans Uc);have k2:=Na w6 w1.heap.size 2 0 ((K1 cu _ _ al Ud).trans Uc);have k3:=Nb w6 w1.heap.size 3 (.int .i32 0) ((K1 cu _ _ al Ud).trans Uc);have k4:=Nb w6 w1.heap.size 4 (.string ⟨#[]⟩) ((K1 cu _ _ al Ud).trans Uc);have k5:=Nb w6 w1.heap.size 5 (.slice none 0 0) ((K1 cu _ _ al Ud).trans Uc);have k6:=Na w6 w1.heap.size 6 y.kind ((K1 cu _ _ al Ud).trans Uc);have k7:=Nb w6 w1.heap.size 7 (.int .i32 y.n) ((K1 cu _ _ al Ud).trans Uc);have k8:=Nb w6 w1.heap.size 8 (.string y.name) ((K1 cu _ _ al Ud).trans Uc);have k9:=Nb w6 w1.heap.size 9 (.slice Ay y.sub.length cy) ((K1 cu _ _ al Ud).trans Uc))))
 refine Nv (v:=qeV ⟨nm,0,Ex.zero,y⟩ none 0 Ay cy) Le rfl ?_;refine⟨⟨none,0,Ay,cy,rfl,Off.less (base0:=W.heap.size+1) ?_ Ua⟩,?_,?_⟩
 ·exact Bh
 ·exact Ua1
 ·exact Uat
theorem Kju {B:Nat} {ts:List Tk} {A:Option Addr} {cap:Nat} {st st1 st2 st3 st4:St} {nm:ByteArray} {y:Ex} {W:World} (h:X2 B ts A cap W st) (ai:ts.length<=100000)
  (aL:∀W',X2 B ts A cap W' st->Calls Tryz.prog 38 #[.pointer (some ⟨B,0,none⟩)] W' (Keu B ts A cap W' (.string nm) st1)) (eu:∀W',X2 B ts A cap W' st1->Calls Tryz.prog 37 #[.pointer (some ⟨B,0,none⟩),.string ⟨#[61]⟩] W' (Keu B ts A cap W' (.tuple #[]) st2))
  (h1:Kc5 ts st2 ⟨#[112,114,101]⟩=false) (x:Ex) (hfi:∀W',X2 B ts A cap W' st2->Calls Tryz.prog 42 #[.pointer (some ⟨B,0,none⟩)] W' (Kf4 B ts A cap W' st2 (some (x,st3)))) (xn:∀W',X2 B ts A cap W' st3->Calls Tryz.prog 43 #[.pointer (some ⟨B,0,none⟩)] W' (Kdq B ts A cap W' (y,st4))) :
  Calls Tryz.prog 20 #[.pointer (some ⟨B,0,none⟩)] W (EqP B ts A cap W (⟨nm,1,x,y⟩,Kda ts st4 ⟨#[59]⟩)):=by
 have cm:=h.lt;have aS:W.heap.size≠B:=Ua;have sR:=fun W' (h':X2 B ts A cap W' st4)=>Koc h' ⟨#[59]⟩ ai;generalize Kda ts st4 ⟨#[59]⟩=st5 at sR ⊢;unfold Kdq Ke9 exV at xn;unfold Kf4 exV at hfi;dsimp only at xn hfi ⊢;have HP:=Nf h;clear h
 go_enter Tryz.func20,Tryz.ntmps20
 go_wp2_with (first
  | (go_at_call 38;go_loud (refine(aL _ (HP.out.alloc _)).mono ?_;rintro r w1 ⟨rfl,ii,cD⟩;have af:=cD.size;(try simp at af);have al:w1.heap.size≠B:=Ua;have vb:B<w1.heap.size:=Ua))
  | (go_at_call_of 37 (Value.string ⟨#[61]⟩);go_loud (refine(eu _ (ii.alloc _)).mono ?_;rintro r w2 ⟨rfl,gL,dz⟩))
  | (go_at_call 18;go_loud (refine(Kdf gL h1 ai).mono ?_;rintro r w3 ⟨rfl,ip,dU⟩))
  | (go_at_call 42;go_loud (refine(hfi _ ip).mono ?_;rintro r w4 ⟨⟨⟨Ax,cx,rfl,hox⟩,bT⟩,hk⟩;have iA:=dz.trans' (dU.trans' hk);have hcg:=K1 iA;have hfg:=kfz iA;have fe:=dU.size;have br:=dz.size;(try simp at br);have qS:=iA.size;(try simp at qS);have us:=lt0 W w4;have va:=lt0 w1 w4)))
 go_region_law (fail)
 all_goals
  refine Zc fun V hV=>?_
  have hpE:X2 B ts A cap V st3:=by
   rw [hV]
   repeat (first|with_reducible exact bT|with_reducible refine X2.drew ?_|with_reducible refine X2.alloc ?_ _|with_reducible refine X2.beyond ?_ Ua _ _)
  have sU:J6 (fun b=>b=B) (W.alloc (.cells #[.string ⟨#[]⟩,.int .i64 0,.int .i64 0,.int .i32 0,.string ⟨#[]⟩,.slice none 0 0,.int .i64 0,.int .i32 0,.string ⟨#[]⟩,.slice none 0 0] 75)) V:=by
   have h0:=cD.trans' (K2 iA);rw [hV]
   repeat (first|with_reducible exact h0|with_reducible refine J6.drew ?_|with_reducible refine J6.alloc ?_ _|refine J6.fresh ?_ Ud _ _)
  have mQ:w1.heap.size<V.heap.size:=by rw [hV];simp <;> omega
  have hoV:Off (w1.heap.size+1) none V (fun V=>Jt V x Ax cx):=by
   have h0:=hox.less (show w1.heap.size+1<=w3.heap.size by omega);rw [hV];refine Off.later ?_ (Jh (Nt))
   repeat (first|with_reducible exact h0|with_reducible refine Kfo ?_ _|refine Kdv ?_ Ua _ _)
  have v0:=Nb V w1.heap.size 0 (.string nm) Uj;have v1:=Na V w1.heap.size 1 1 Uj;have v2:=Na V w1.heap.size 2 x.kind Uj;have v3:=Nb V w1.heap.size 3 (.int .i32 x.n) Uj;have v4:=Nb V w1.heap.size 4 (.string x.name) Uj;have v5:=Nb V w1.heap.size 5 (.slice Ax x.sub.length cx) Uj;have v6:=Na V w1.heap.size 6 0 Uj;have v7:=Nb V w1.heap.size 7 (.int .i32 0) Uj;have v8:=Nb V w1.heap.size 8 (.string ⟨#[]⟩) Uj;have v9:=Nb V w1.heap.size 9 (.slice none 0 0) Uj;have vf:∀o,V.frozen? ⟨w1.heap.size,o,none⟩=false:=by intro o;rw [hV];go_simp
  clear hV hcg hfg hox
  go_wp2_with (first
   | (go_at_call 43;go_loud (refine(xn _ hpE).mono ?_;rintro r w5 ⟨⟨_,rfl,Ay,cy,rfl,hoy⟩,dv,bb⟩;have yx:=bb.size;(try simp at yx);have hy5a:=lt0 W w5;have hy5b:=lt0 w1 w5;have g0:=(K1 bb _ _ al mQ).trans v0;have g1:=(K1 bb _ _ al mQ).trans v1;have g2:=(K1 bb _ _ al mQ).trans v2;have g3:=(K1 bb _ _ al mQ).trans v3;have g4:=(K1 bb _ _ al mQ).trans v4;have g5:=(K1 bb _ _ al mQ).trans v5;have g6:=(K1 bb _ _ al mQ).trans v6;have g7:=(K1 bb _ _ al mQ).trans v7;have g8:=(K1 bb _ _ al mQ).trans v8;have g9:=(K1 bb _ _ al mQ).trans v9;have gf:∀o,w5.frozen? ⟨w1.heap.size,o,none⟩=false:=fun o=>(kfz bb _ _ al mQ).trans (vf o)))
   | (go_at_call 37;go_loud (have hp5':=(((dv.beyond (c:=w1.heap.size) Ua 6 (.int .i64 y.kind)).beyond (c:=w1.heap.size) Ua 7 (.int .i32 y.n)).beyond (c:=w1.heap.size) Ua 8 (.string y.name)).beyond (c:=w1.heap.size) Ua 9 (.slice Ay y.sub.length cy);refine(sR _ hp5').mono ?_;rintro r w6 ⟨rfl,tj,cu⟩;have bn:=((((sU.trans' bb).fresh (c:=w1.heap.size) Ud _ _).fresh (c:=w1.heap.size) Ud _ _).fresh (c:=w1.heap.size) Ud _ _).fresh (c:=w1.heap.size) Ud _ _ |>.trans' cu;have hz6:=cu.size;(try simp at hz6);have pz:=lt0 W w6;have hy6b:=lt0 w1 w6;have z0:=Nb w6 W.heap.size 0 (.string ⟨#[]⟩) ((K1 bn _ _ aS Ud).trans Uc);have z1:=Na w6 W.heap.size 1 0 ((K1 bn _ _ aS Ud).trans Uc);have z2:=Na w6 W.heap.size 2 0 ((K1 bn _ _ aS Ud).trans Uc);have z3:=Nb w6 W.heap.size 3 (.int .i32 0) ((K1 bn _ _ aS Ud).trans Uc);have z4:=Nb w6 W.heap.size 4 (.string ⟨#[]⟩) ((K1 bn _ _ aS Ud).trans Uc);have z5:=Nb w6 W.heap.size 5 (.slice none 0 0) ((K1 bn _ _ aS Ud).trans Uc);have z6:=Na w6 W.heap.size 6 0 ((K1 bn _ _ aS Ud).trans Uc);have z7:=Nb w6 W.heap.size 7 (.int .i32 0) ((K1 bn _ _ aS Ud).trans Uc);have z8:=Nb w6 W.heap.size 8 (.string ⟨#[]⟩) ((K1 bn _ _ aS Ud).trans Uc);have z9:=Nb w6 W.heap.size 9 (.slice none 0 0) ((K1 bn _ _ aS Ud).trans Uc);have fz:∀o,w6.frozen? ⟨W.heap.size,o,none⟩=false:=fun o=>(kfz bn _ _ aS Uh).trans Uc;have k0:=Nb w6 w1.heap.size 0 (.string nm) ((K1 cu _ _ al Ud).trans Uc);have k1:=Na w6 w1.heap.size 1 1 ((K1 cu _ _ al Ud).trans Uc);have k2:=Na w6 w1.heap.size 2 x.kind ((K1 cu _ _ al Ud).trans Uc);have k3:=Nb w6 w1.heap.size 3 (.int .i32 x.n) ((K1 cu _ _ al Ud).trans Uc);have k4:=Nb w6 w1.heap.size 4 (.string x.name) ((K1 cu _ _ al Ud).trans Uc);have k5:=Nb w6 w1.heap.size 5 (.slice Ax x.sub.length cx) ((K1 cu _ _ al Ud).trans Uc);have k6:=Na w6 w1.heap.size 6 y.kind ((K1 cu _ _ al Ud).trans Uc);have k7:=Nb w6 w1.heap.size 7 (.int .i32 y.n) ((K1 cu _ _ al Ud).trans Uc);have k8:=Nb w6 w1.heap.size 8 (.string y.name) ((K1 cu _ _ al Ud).trans Uc);have k9:=Nb w6 w1.heap.size 9 (.slice Ay y.sub.length cy) ((K1 cu _ _ al Ud).trans Uc))))
  refine Nv (v:=qeV ⟨nm,1,x,y⟩ Ax cx Ay cy) Le rfl ?_;refine⟨⟨Ax,cx,Ay,cy,rfl,Off.less (base0:=W.heap.size+1) ?_ Ua⟩,?_,?_⟩
  ·have hoy2:=(((Kdv (Kdv (Kdv (Kdv (hoy.less (show w1.heap.size+1<=_ by omega)) (c:=w1.heap.size) Ua 6 (.int .i64 y.kind)) (c:=w1.heap.size) Ua 7 (.int .i32 y.n)) (c:=w1.heap.size) Ua 8 (.string y.name)) (c:=w1.heap.size) Ua 9 (.slice Ay y.sub.length cy)).kept Ua cu).less (show W.heap.size+1<=_ by omega));have hox2:=(((Kdv (Kdv (Kdv (Kdv (hoV.kept Ua bb) (c:=w1.heap.size) Ua 6 (.int .i64 y.kind)) (c:=w1.heap.size) Ua 7 (.int .i32 y.n)) (c:=w1.heap.size) Ua 8 (.string y.name)) (c:=w1.heap.size) Ua 9 (.slice Ay y.sub.length cy)).kept Ua cu).less (show W.heap.size+1<=_ by omega));refine Off.and ?_ ?_
   ·repeat (first|with_reducible exact hox2|with_reducible refine Kfo ?_ _|refine Kdv ?_ Ua _ _)
   ·repeat (first|with_reducible exact hoy2|with_reducible refine Kfo ?_ _|refine Kdv ?_ Ua _ _)
  ·exact Ua1
  ·exact Uat
theorem Koh {B:Nat} {ts:List Tk} {A:Option Addr} {cap:Nat} {st:St} {W:World} (h:X2 B ts A cap W st) (ai:ts.length<=100000) :
  Calls Tryz.prog 20 #[.pointer (some ⟨B,0,none⟩)] W (EqP B ts A cap W (Kdt ts st)):=by
 have aL:=fun W' (h':X2 B ts A cap W' st)=>Kfd h' ai;unfold Kdt;generalize Kdn ts st=N at aL ⊢;obtain⟨nm,st1⟩:=N;dsimp only at aL ⊢;have eu:=fun W' (h':X2 B ts A cap W' st1)=>Koc h' ⟨#[61]⟩ ai;generalize Kda ts st1 ⟨#[61]⟩=st2 at eu ⊢;have xn:=fun s W' (h':X2 B ts A cap W' s)=>Kog h' ai
 cases h1:Kc5 ts st2 ⟨#[112,114,101]⟩
 ·rw [if_neg Uh];have hfi:=fun W' (h':X2 B ts A cap W' st2)=>Kl9 h' ai
  cases hF:Kem ts st2 with
  | none=>
   rw [hF] at hfi;have hx:=xn st2;dsimp only;generalize K3 ts (Kfc ts) .expr st2=R at hx ⊢;obtain⟨y,st4⟩:=R;exact Kjm h ai aL eu h1 hfi hx
  | some z=>
   obtain⟨x,st3⟩:=z;rw [hF] at hfi;have hx:=xn st3;dsimp only;generalize K3 ts (Kfc ts) .expr st3=R at hx ⊢;obtain⟨y,st4⟩:=R;exact Kju h ai aL eu h1 x hfi hx
 ·rw [if_pos rfl,Kdu h1];have hx:=xn ⟨st2.pos+1,st2.bad⟩;generalize K3 ts (Kfc ts) .expr ⟨st2.pos+1,st2.bad⟩=R at hx ⊢;obtain⟨y,st4⟩:=R;exact Kjv h ai aL eu h1 hx
def Kjo (B:Nat) (ts:List Tk) (A:Option Addr) (cap:Nat) (W:World) (x:Pr×St) (r:Ending) (W':World):Prop:=
 (∃A1 c1 A2 c2 A3 c3,r = .returned (.agg #[.string x.1.name,.slice A1 x.1.ins.length c1,.slice A2 x.1.outs.length c2,.slice A3 x.1.locals.length c3,.slice none 0 0])/\Off W.heap.size none W' (fun V=>Ju V x.1.ins A1 c1/\Ju V x.1.outs A2 c2/\Ju V x.1.locals A3 c3))/\X2 B ts A cap W' x.2/\J6 (fun b=>b=B) W W'
theorem Kl4 {B:Nat} {ts:List Tk} {A:Option Addr} {cap:Nat} {st sA sB sC sD sE sF:St} {nm:ByteArray} {ins outs:List Va} {W:World} (h:X2 B ts A cap W st) (ai:ts.length<=100000)
  (bg:∀W',X2 B ts A cap W' st->Calls Tryz.prog 37 #[.pointer (some ⟨B,0,none⟩),.string ⟨#[110,111,100,101]⟩] W' (Keu B ts A cap W' (.tuple #[]) sA))
  (aL:∀W',X2 B ts A cap W' sA->Calls Tryz.prog 38 #[.pointer (some ⟨B,0,none⟩)] W' (Keu B ts A cap W' (.string nm) sB))
  (js:∀W',X2 B ts A cap W' sB->Calls Tryz.prog 39 #[.pointer (some ⟨B,0,none⟩)] W' (Khn B ts A cap W' (ins,sC)))
  (sR:∀W',X2 B ts A cap W' sC->Calls Tryz.prog 37 #[.pointer (some ⟨B,0,none⟩),.string ⟨#[114,101,116,117,114,110,115]⟩] W' (Keu B ts A cap W' (.tuple #[]) sD))
  (gN:∀W',X2 B ts A cap W' sD->Calls Tryz.prog 39 #[.pointer (some ⟨B,0,none⟩)] W' (Khn B ts A cap W' (outs,sE)))
  (hn5:∀W',X2 B ts A cap W' sE->Calls Tryz.prog 37 #[.pointer (some ⟨B,0,none⟩),.string ⟨#[59]⟩] W' (Keu B ts A cap W' (.tuple #[]) sF))
  (hs:Kc5 ts sF ⟨#[118,97,114]⟩=false) :
  Calls Tryz.prog 17 #[.pointer (some ⟨B,0,none⟩)] W (Kjo B ts A cap W (⟨nm,ins,outs,[],[]⟩,Kda ts sF ⟨#[108,101,116]⟩)):=by
 have cm:=h.lt;have aS:W.heap.size≠B:=Ua;have hn7:=fun W' (h':X2 B ts A cap W' sF)=>Koc h' ⟨#[108,101,116]⟩ ai;generalize Kda ts sF ⟨#[108,101,116]⟩=sG at hn7 ⊢;unfold Khn at js gN;dsimp only at js gN ⊢;have HP:=Nf h;clear h
 go_enter Tryz.func17,Tryz.ntmps17
 go_wp2_with (first
  | (go_at_call_of 37 (Value.string ⟨#[110,111,100,101]⟩);go_loud (refine(bg _ (HP.out.alloc _)).mono ?_;rintro r w0 ⟨rfl,pp,iP⟩;have bD:=iP.size;(try simp at bD)))
  | (go_at_call 38;go_loud (refine(aL _ pp).mono ?_;rintro r w1 ⟨rfl,ii,hk⟩;have cD:=iP.trans' hk;have af:=cD.size;(try simp at af);have al:w1.heap.size≠B:=Ua;have vb:B<w1.heap.size:=Ua))
  | (go_at_call 39;go_loud (refine(gN _ ip).mono ?_;rintro r w4 ⟨⟨Ao,co,rfl,hoo⟩,bT,iA⟩;have lk:=dU.trans' iA;have qS:=lk.size;have hz34:=iA.size;(try simp at qS);have ns:=lt0 w1 w4;have d0:=Nb w4 w1.heap.size 0 (.string nm) ((K1 lk _ _ al Ud).trans Uc);have d1:=Nb w4 w1.heap.size 1 (.slice Ai ins.length ci) ((K1 lk _ _ al Ud).trans Uc);have d2:=Nb w4 w1.heap.size 2 (.slice none 0 0) ((K1 lk _ _ al Ud).trans Uc);have d3:=Nb w4 w1.heap.size 3 (.slice none 0 0) ((K1 lk _ _ al Ud).trans Uc);have d4:=Nb w4 w1.heap.size 4 (.slice none 0 0) ((K1 lk _ _ al Ud).trans Uc);have df:∀o,w4.frozen? ⟨w1.heap.size,o,none⟩=false:=fun o=>(kfz lk _ _ al Ud).trans Uc))
  | (go_at_call 39;go_loud (refine(js _ (ii.alloc _)).mono ?_;rintro r w2 ⟨⟨Ai,ci,rfl,hoi⟩,gL,dz⟩;have br:=dz.size;(try simp at br);have gq:=lt0 w1 w2;have c0:=Nb w2 w1.heap.size 0 (.string nm) ((K1 dz _ _ al Ud).trans Uc);have c1:=Nb w2 w1.heap.size 1 (.slice none 0 0) ((K1 dz _ _ al Ud).trans Uc);have c2:=Nb w2 w1.heap.size 2 (.slice none 0 0) ((K1 dz _ _ al Ud).trans Uc);have c3:=Nb w2 w1.heap.size 3 (.slice none 0 0) ((K1 dz _ _ al Ud).trans Uc);have c4:=Nb w2 w1.heap.size 4 (.slice none 0 0) ((K1 dz _ _ al Ud).trans Uc);have cf:∀o,w2.frozen? ⟨w1.heap.size,o,none⟩=false:=fun o=>(kfz dz _ _ al Uh).trans Uc))
  | (go_at_call_of 37 (Value.string ⟨#[114,101,116,117,114,110,115]⟩);go_loud (have hpx:=gL.beyond (c:=w1.heap.size) vb 1 (.slice Ai ins.length ci);refine(sR _ hpx).mono ?_;rintro r w3 ⟨rfl,ip,dU⟩;have fe:=dU.size;(try simp at fe)))
  | (go_at_call_of 37 (Value.string ⟨#[59]⟩);go_loud (have hpx:=bT.beyond (c:=w1.heap.size) vb 2 (.slice Ao outs.length co);refine(hn5 _ hpx).mono ?_;rintro r w5 ⟨rfl,dv,bb⟩))
  | (go_at_call_of 18 (Value.string ⟨#[118,97,114]⟩);go_loud (refine(Kdf dv hs ai).mono ?_;rintro r w6 ⟨rfl,tj,cu⟩;have hP:=bb.trans' cu;have hz6:=hP.size;(try simp at hz6);have lH:=lt0 w1 w6;have pz:=lt0 W w6;have bn:=((((cD.trans' (K2 dz)).fresh (c:=w1.heap.size) Ud _ _).trans' lk).fresh (c:=w1.heap.size) Ud _ _).trans' hP;have g0:=Nb w6 w1.heap.size 0 (.string nm) ((K1 hP _ _ al Ud).trans Uc);have g1:=Nb w6 w1.heap.size 1 (.slice Ai ins.length ci) ((K1 hP _ _ al Ud).trans Uc);have g2:=Nb w6 w1.heap.size 2 (.slice Ao outs.length co) ((K1 hP _ _ al Ud).trans Uc);have g3:=Nb w6 w1.heap.size 3 (.slice none 0 0) ((K1 hP _ _ al Ud).trans Uc);have g4:=Nb w6 w1.heap.size 4 (.slice none 0 0) ((K1 hP _ _ al Ud).trans Uc);have gf:∀o,w6.frozen? ⟨w1.heap.size,o,none⟩=false:=fun o=>(kfz hP _ _ al Ud).trans Uc;have z0:=Nb w6 W.heap.size 0 (.string ⟨#[]⟩) ((K1 bn _ _ aS Ud).trans Uc);have z1:=Nb w6 W.heap.size 1 (.slice none 0 0) ((K1 bn _ _ aS Ud).trans Uc);have z2:=Nb w6 W.heap.size 2 (.slice none 0 0) ((K1 bn _ _ aS Ud).trans Uc);have z3:=Nb w6 W.heap.size 3 (.slice none 0 0) ((K1 bn _ _ aS Ud).trans Uc);have z4:=Nb w6 W.heap.size 4 (.slice none 0 0) ((K1 bn _ _ aS Ud).trans Uc);have zf:∀o,w6.frozen? ⟨W.heap.size,o,none⟩=false:=fun o=>(kfz bn _ _ aS Uh).trans Uc))
  | (go_at_call_of 37 (Value.string ⟨#[108,101,116]⟩);go_loud (refine(hn7 _ tj).mono ?_;rintro r w7 ⟨rfl,hp7,hk7⟩;have hz7:=hk7.size;have xd:=lt0 w1 w7;have hy7a:=lt0 W w7;have hcg7:=K1 hk7;have hfg7:=kfz hk7;have y0:=(K1 hk7 _ _ aS pz).trans z0;have y1:=(K1 hk7 _ _ aS pz).trans z1;have y2:=(K1 hk7 _ _ aS pz).trans z2;have y3:=(K1 hk7 _ _ aS pz).trans z3;have y4:=(K1 hk7 _ _ aS pz).trans z4)))
 refine Nv (v:= .agg #[.string nm,.slice Ai ins.length ci,.slice Ao outs.length co,.slice none 0 0,.slice none 0 0]) Gs rfl ?_;have hoi6:Off (w1.heap.size+1) none w6 (fun V=>Ju V ins Ai ci):=(Kdv ((Kdv (hoi.less (show w1.heap.size+1<=_ by simp)) (c:=w1.heap.size) Ua 1 (.slice Ai ins.length ci)).kept Ua lk) (c:=w1.heap.size) Ua 2 (.slice Ao outs.length co)).kept Ua hP;have hoo6:Off (w1.heap.size+1) none w6 (fun V=>Ju V outs Ao co):=(Kdv (hoo.less (show w1.heap.size+1<=w3.heap.size by omega)) (c:=w1.heap.size) Ua 2 (.slice Ao outs.length co)).kept Ua hP;refine⟨⟨Ai,ci,Ao,co,none,0,rfl,Off.less (base0:=W.heap.size+1) ?_ Ua⟩,?_,?_⟩
 ·have h1:=(hoi6.kept Ua hk7).less (show W.heap.size+1<=_ by omega);have h2:=(hoo6.kept Ua hk7).less (show W.heap.size+1<=_ by omega);have h3:=h1.and (h2.and (Kex (W.heap.size+1) w7 (P:=fun V=>Ju V [] none 0) fun V=>⟨Ns _,Uo,fun h=>absurd h Uh⟩))
  repeat (first|with_reducible exact h3|refine Kdv ?_ Ua _ _)
 ·repeat (first|with_reducible exact hp7|with_reducible refine X2.beyond ?_ Ua _ _)
 ·have hkZ:=K2 (bn.trans' hk7)
  repeat (first|with_reducible exact hkZ|with_reducible refine J6.fresh ?_ Ua _ _)
structure Kfm (B g:Nat) (ts:List Tk) (A:Option Addr) (cap:Nat) (WL w:World) (nm:ByteArray) (i1 i2:Value) (l:List Va) (Al:Option Addr) (cl:Nat) (st:St):Prop where
 ps:X2 B ts A cap w st
 kept:J6 (fun k=>k=B\/k=g) WL w
 own:w.ownsRow WL.heap.size 83 4 (.slice Al l.length cl) l.length (Xe l)
 c0:w.cell? ⟨g,0,none⟩=some (.string nm)
 c1:w.cell? ⟨g,1,none⟩=some i1
 c2:w.cell? ⟨g,2,none⟩=some i2
 c3:w.cell? ⟨g,3,none⟩=some (.slice Al l.length cl)
 c4:w.cell? ⟨g,4,none⟩=some (.slice none 0 0)
 fg:∀o,w.frozen? ⟨g,o,none⟩=false
 Bg:B<g
 gL:g<WL.heap.size
theorem J6.weak {S T:Nat->Prop} {W W':World} (h:J6 S W W') (hS:∀k,S k->T k):J6 T W W':=⟨h.os,h.tape,h.output,h.size,fun k hk hT=>h.block k hk fun hs=>hT (hS k hs)⟩
theorem Kfm.lt {B g:Nat} {ts:List Tk} {A:Option Addr} {cap:Nat} {WL w:World} {nm:ByteArray} {i1 i2:Value} {l:List Va} {Al:Option Addr} {cl:Nat} {st:St} (h:Kfm B g ts A cap WL w nm i1 i2 l Al cl st):g<w.heap.size:=Nr h.gL h.kept.size
theorem Kfm.on {B g:Nat} {ts:List Tk} {A:Option Addr} {cap:Nat} {WL w w':World} {nm:ByteArray} {i1 i2:Value} {l:List Va} {Al:Option Addr} {cl:Nat} {st st':St} (h:Kfm B g ts A cap WL w nm i1 i2 l Al cl st) (hk:J6 (fun b=>b=B) w w') (hp:X2 B ts A cap w' st'):Kfm B g ts A cap WL w' nm i1 i2 l Al cl st':=by
 have vb:=h.Bg;have hgL:=h.gL;have hg:=h.lt;have ng:g≠B:=Ua;exact⟨hp,h.kept.trans' (hk.weak fun k hk=> .inl hk),Khg h.own Ua hk,(K1 hk _ _ ng hg).trans h.c0,(K1 hk _ _ ng hg).trans h.c1,(K1 hk _ _ ng hg).trans h.c2,(K1 hk _ _ ng hg).trans h.c3,(K1 hk _ _ ng hg).trans h.c4,fun o=>(kfz hk _ _ ng hg).trans (h.fg o),vb,hgL⟩
theorem Kfm.mid {B g:Nat} {ts:List Tk} {A:Option Addr} {cap:Nat} {WL w w':World} {nm:ByteArray} {i1 i2:Value} {l:List Va} {Al:Option Addr} {cl:Nat} {st:St} (h:Kfm B g ts A cap WL w nm i1 i2 l Al cl st) (hg:w.grownBy w' (Value.slice Al l.length cl).ownBlock):w'.cell? ⟨g,3,none⟩=some (.slice Al l.length cl)/\w'.frozen? ⟨g,3,none⟩=false:=by
 have hgL:=h.gL;have hb:w'.heap[g]?=w.heap[g]?:=hg.block g h.lt fun he=>Md;exact⟨Jr hb h.c3,(World.frozen?_of_block hb).trans (h.fg 3)⟩
theorem Kfm.app {B g:Nat} {ts:List Tk} {A:Option Addr} {cap:Nat} {WL w w':World} {nm:ByteArray} {i1 i2:Value} {l:List Va} {Al A6:Option Addr} {cl c6:Nat} {st:St} {d:Va} (h:Kfm B g ts A cap WL w nm i1 i2 l Al cl st) (ho:w'.ownsRow WL.heap.size 83 4 (.slice A6 (l.length+1) c6) (l.length+1) (Xe l ++ vaC d)) (hg:w.grownBy w' (Value.slice Al l.length cl).ownBlock) :
  Kfm B g ts A cap WL (w'.setCell ⟨g,3,none⟩ (.slice A6 (l.length+1) c6)) nm i1 i2 (l ++ [d]) A6 c6 st:=by
 have vb:=h.Bg;have hgL:=h.gL;have am:=h.lt;have hb:∀b,b<WL.heap.size->w'.heap[b]?=w.heap[b]?:=fun b hb=>hg.block b (Nr hb h.kept.size) fun he=>De;have ev:∀o v,w.cell? ⟨g,o,none⟩=some v->w'.cell? ⟨g,o,none⟩=some v:=fun o v hv=>Jr (hb g hgL) hv;have aS:∀o v,o≠3->w.cell? ⟨g,o,none⟩=some v->(w'.setCell ⟨g,3,none⟩ (.slice A6 (l.length+1) c6)).cell? ⟨g,o,none⟩=some v:=fun o v ho hv=>(J5 _ _ _ _ _ ho).trans (ev o v hv);have ai:(l ++ [d]).length=l.length+1:=Uh;refine⟨(h.ps.app h.own Ua hg).beyond vb _ _,?_,?_,aS _ _ Ug h.c0,aS _ _ Ug h.c1,aS _ _ Ug h.c2,?_,aS _ _ Ug h.c4,fun o=>?_,vb,hgL⟩
 ·exact B8
 ·rw [ai];have:=Jbd ho (z:=g) Ua 3 (.slice A6 (l.length+1) c6);simpa [Xe] using this
 ·rw [ai];exact Nx _ _ _ (ev _ _ h.c3)
 ·rw [World.frozen?_setCell,World.frozen?_of_block (hb g hgL)];exact h.fg o
theorem Knm {B:Nat} {ts:List Tk} {A:Option Addr} {cap:Nat} {st sA sB sC sD sE sF:St} {nm:ByteArray} {ins outs:List Va} {W:World} (h:X2 B ts A cap W st) (ai:ts.length<=100000)
  (bg:∀W',X2 B ts A cap W' st->Calls Tryz.prog 37 #[.pointer (some ⟨B,0,none⟩),.string ⟨#[110,111,100,101]⟩] W' (Keu B ts A cap W' (.tuple #[]) sA))
  (aL:∀W',X2 B ts A cap W' sA->Calls Tryz.prog 38 #[.pointer (some ⟨B,0,none⟩)] W' (Keu B ts A cap W' (.string nm) sB))
  (js:∀W',X2 B ts A cap W' sB->Calls Tryz.prog 39 #[.pointer (some ⟨B,0,none⟩)] W' (Khn B ts A cap W' (ins,sC)))
  (sR:∀W',X2 B ts A cap W' sC->Calls Tryz.prog 37 #[.pointer (some ⟨B,0,none⟩),.string ⟨#[114,101,116,117,114,110,115]⟩] W' (Keu B ts A cap W' (.tuple #[]) sD))
  (gN:∀W',X2 B ts A cap W' sD->Calls Tryz.prog 39 #[.pointer (some ⟨B,0,none⟩)] W' (Khn B ts A cap W' (outs,sE)))
  (hn5:∀W',X2 B ts A cap W' sE->Calls Tryz.prog 37 #[.pointer (some ⟨B,0,none⟩),.string ⟨#[59]⟩] W' (Keu B ts A cap W' (.tuple #[]) sF))
  (hs:Kc5 ts sF ⟨#[118,97,114]⟩=true) :
  Calls Tryz.prog 17 #[.pointer (some ⟨B,0,none⟩)] W (Kjo B ts A cap W (⟨nm,ins,outs,(Kfj ts (ts.length+1) [(Kez ts ⟨sF.pos+1,sF.bad⟩).1] (Kez ts ⟨sF.pos+1,sF.bad⟩).2).1,[]⟩,Kda ts (Kfj ts (ts.length+1) [(Kez ts ⟨sF.pos+1,sF.bad⟩).1] (Kez ts ⟨sF.pos+1,sF.bad⟩).2).2 ⟨#[108,101,116]⟩)):=by
 have cm:=h.lt;have aS:W.heap.size≠B:=Ua;have am:=Ket hs;have ae:=fun W' (h':X2 B ts A cap W' ⟨sF.pos+1,sF.bad⟩)=>Kj1 h' ai;have hmv:=(Kjc ts ⟨sF.pos+1,sF.bad⟩).2.1;generalize Kez ts ⟨sF.pos+1,sF.bad⟩=D at ae hmv ⊢;obtain⟨d,sG⟩:=D;replace hmv:sF.pos+1<=sG.pos:=hmv;obtain⟨R,hR⟩:∃R,R=Kfj ts (ts.length+1) [d] sG:=⟨_,rfl⟩;dsimp only at ae ⊢;rw [<-hR];have vi:=Nf hR;clear hR;unfold Khn at js gN;unfold vaV at ae;dsimp only at js gN ⊢;have HP:=Nf h;clear h
 go_enter Tryz.func17,Tryz.ntmps17
 go_wp2_with (first
  | (go_at_call_of 37 (Value.string ⟨#[110,111,100,101]⟩);go_loud (refine(bg _ (HP.out.alloc _)).mono ?_;rintro r w0 ⟨rfl,pp,iP⟩;have bD:=iP.size;(try simp at bD)))
  | (go_at_call 38;go_loud (refine(aL _ pp).mono ?_;rintro r w1 ⟨rfl,ii,hk⟩;have cD:=iP.trans' hk;have af:=cD.size;(try simp at af);have al:w1.heap.size≠B:=Ua;have vb:B<w1.heap.size:=Ua))
  | (go_at_call 39;go_loud (refine(gN _ ip).mono ?_;rintro r w4 ⟨⟨Ao,co,rfl,hoo⟩,bT,iA⟩;have lk:=dU.trans' iA;have qS:=lk.size;have hz34:=iA.size;(try simp at qS);have ns:=lt0 w1 w4;have d0:=Nb w4 w1.heap.size 0 (.string nm) ((K1 lk _ _ al Ud).trans Uc);have d1:=Nb w4 w1.heap.size 1 (.slice Ai ins.length ci) ((K1 lk _ _ al Ud).trans Uc);have d2:=Nb w4 w1.heap.size 2 (.slice none 0 0) ((K1 lk _ _ al Ud).trans Uc);have d3:=Nb w4 w1.heap.size 3 (.slice none 0 0) ((K1 lk _ _ al Ud).trans Uc);have d4:=Nb w4 w1.heap.size 4 (.slice none 0 0) ((K1 lk _ _ al Ud).trans Uc);have df:∀o,w4.frozen? ⟨w1.heap.size,o,none⟩=false:=fun o=>(kfz lk _ _ al Ud).trans Uc))
  | (go_at_call 39;go_loud (refine(js _ (ii.alloc _)).mono ?_;rintro r w2 ⟨⟨Ai,ci,rfl,hoi⟩,gL,dz⟩;have br:=dz.size;(try simp at br);have gq:=lt0 w1 w2;have c0:=Nb w2 w1.heap.size 0 (.string nm) ((K1 dz _ _ al Ud).trans Uc);have c1:=Nb w2 w1.heap.size 1 (.slice none 0 0) ((K1 dz _ _ al Ud).trans Uc);have c2:=Nb w2 w1.heap.size 2 (.slice none 0 0) ((K1 dz _ _ al Ud).trans Uc);have c3:=Nb w2 w1.heap.size 3 (.slice none 0 0) ((K1 dz _ _ al Ud).trans Uc);have c4:=Nb w2 w1.heap.size 4 (.slice none 0 0) ((K1 dz _ _ al Ud).trans Uc);have cf:∀o,w2.frozen? ⟨w1.heap.size,o,none⟩=false:=fun o=>(kfz dz _ _ al Uh).trans Uc))
  | (go_at_call_of 37 (Value.string ⟨#[114,101,116,117,114,110,115]⟩);go_loud (have hpx:=gL.beyond (c:=w1.heap.size) vb 1 (.slice Ai ins.length ci);refine(sR _ hpx).mono ?_;rintro r w3 ⟨rfl,ip,dU⟩;have fe:=dU.size;(try simp at fe)))
  | (go_at_call_of 37 (Value.string ⟨#[59]⟩);go_loud (have hpx:=bT.beyond (c:=w1.heap.size) vb 2 (.slice Ao outs.length co);refine(hn5 _ hpx).mono ?_;rintro r w5 ⟨rfl,dv,bb⟩))
  | (go_at_call_of 18 (Value.string ⟨#[118,97,114]⟩);go_loud (refine(Kdr dv hs ai).mono ?_;rintro r w6 ⟨rfl,tj,cu⟩;have hP:=bb.trans' cu;have hz6:=hP.size;(try simp at hz6);have lH:=lt0 w1 w6;have pz:=lt0 W w6;have bn:=((((cD.trans' (K2 dz)).fresh (c:=w1.heap.size) Ud _ _).trans' lk).fresh (c:=w1.heap.size) Ud _ _).trans' hP;have g0:=Nb w6 w1.heap.size 0 (.string nm) ((K1 hP _ _ al Ud).trans Uc);have g1:=Nb w6 w1.heap.size 1 (.slice Ai ins.length ci) ((K1 hP _ _ al Ud).trans Uc);have g2:=Nb w6 w1.heap.size 2 (.slice Ao outs.length co) ((K1 hP _ _ al Ud).trans Uc);have g3:=Nb w6 w1.heap.size 3 (.slice none 0 0) ((K1 hP _ _ al Ud).trans Uc);have g4:=Nb w6 w1.heap.size 4 (.slice none 0 0) ((K1 hP _ _ al Ud).trans Uc);have gf:∀o,w6.frozen? ⟨w1.heap.size,o,none⟩=false:=fun o=>(kfz hP _ _ al Ud).trans Uc;have z0:=Nb w6 W.heap.size 0 (.string ⟨#[]⟩) ((K1 bn _ _ aS Ud).trans Uc);have z1:=Nb w6 W.heap.size 1 (.slice none 0 0) ((K1 bn _ _ aS Ud).trans Uc);have z2:=Nb w6 W.heap.size 2 (.slice none 0 0) ((K1 bn _ _ aS Ud).trans Uc);have z3:=Nb w6 W.heap.size 3 (.slice none 0 0) ((K1 bn _ _ aS Ud).trans Uc);have z4:=Nb w6 W.heap.size 4 (.slice none 0 0) ((K1 bn _ _ aS Ud).trans Uc);have zf:∀o,w6.frozen? ⟨W.heap.size,o,none⟩=false:=fun o=>(kfz bn _ _ aS Uh).trans Uc)))
 have hoi6:Off (w1.heap.size+1) none w6 (fun V=>Ju V ins Ai ci):=(Kdv ((Kdv (hoi.less (show w1.heap.size+1<=_ by simp)) (c:=w1.heap.size) Ua 1 (.slice Ai ins.length ci)).kept Ua lk) (c:=w1.heap.size) Ua 2 (.slice Ao outs.length co)).kept Ua hP;have hoo6:Off (w1.heap.size+1) none w6 (fun V=>Ju V outs Ao co):=(Kdv (hoo.less (show w1.heap.size+1<=w3.heap.size by omega)) (c:=w1.heap.size) Ua 2 (.slice Ao outs.length co)).kept Ua hP;have aY:Kfm B w1.heap.size ts A cap w6 w6 nm (.slice Ai ins.length ci) (.slice Ao outs.length co) [] none 0 ⟨sF.pos+1,sF.bad⟩:=⟨tj,J6.refl _,Nw,g0,g1,g2,g3,g4,gf,vb,lH⟩;have hkXa:=K2 bn;have hlL:sG.pos<=ts.length\/True:= .inr trivial;clear g0 g1 g2 g3 g4 gf iP cD dz dU iA bb cu lk hP hoi hoo c0 c1 c2 c3 c4 cf d0 d1 d2 d3 d4 df pp ii gL ip bT dv hlL bn bg aL js sR gN hn5;have eS:=aY.lt;have q3:=aY.c3;refine Kd (fun V:World=>V.cell? ⟨w1.heap.size,3,none⟩=some (.slice (none) (([]:List Va)).length (0))) 5 3 Ue Gp ?_;simp only [List.size_toArray,Nl,Nm,Nat.zero_add,Nat.reduceAdd];have ar:(w6).drew.cell? ⟨w1.heap.size,3,none⟩=some (.slice (none) (([]:List Va)).length (0)):=q3;refine Ji 0 ar ?_;refine Ji 1 ar ?_;refine Ji 2 ar ?_;refine Kb 3 ?_;refine Jj fun K hK=>?_;go_simp;refine(ae _ (tj).drew).mono ?_;rintro r wo ⟨rfl,hpo,hko⟩;dsimp only;have mz:=(aY.on (J6.refl _).drew (tj).drew).on hko hpo;refine hK _ _ ⟨mz.c3,?_⟩;clear hK K
 try simp only [Act.put,sa1,sa2,sa3]
 refine Kb 4 ?_;refine Jj fun K hK=>?_;go_simp;refine hK _ _ ⟨J4 mz.c3,?_⟩;clear hK K
 try simp only [Act.put,sa1,sa2,sa3]
 have kR:=mz.on ((J6.refl wo).alloc (.cells #[.string d.name,.int .i64 d.type,.int .i64 d.ck,.string d.cn] 83)) (hpo.alloc _);have hwL:=mz.kept.size;refine Kh Ue ?_;refine Qx 5 ?_;refine Ji5 (.tmp 32) (.tmp 35) 35 rfl w6.heap.size 83 _ 4 48 Tryz.underlying35 Jc8 rfl Ua (.slice (none) (([]:List Va)).length (0)) (([]:List Va)).length (Xe (([]:List Va))) wo.heap.size 1 1 (vaC d) rfl kR.own rfl rfl (fun j u hj=>Sb) Dl Ud Ua Ud ?_;intro v7 w7 my hg7 hv7;obtain⟨A7,c7,rfl,-,-⟩:=Jv my;have pr:=kR.mid hg7;obtain⟨m3,mf⟩:=pr;refine Qx 6 ?_;refine Jj fun K hK=>?_;go_simp;refine hK _ _ ?_;clear hK K
 try simp only [Act.put,sa1,sa2,sa3]
 refine Qx 7 ?_;refine Jj fun K hK=>?_;go_simp;refine hK _ _ ?_;clear hK K
 try simp only [Act.put,sa1,sa2,sa3]
 refine Ki Ue ?_;have hat7:=kR.app my hg7;have hpo7:=hat7.ps.le;refine Zc fun V hV=>?_;have hatV:Kfm B w1.heap.size ts A cap w6 V nm (.slice Ai ins.length ci) (.slice Ao outs.length co) [d] A7 c7 sG:=by rw [hV];exact hat7
 clear hV hat7 kR mz my hg7 hv7 m3 mf hko hpo aY ae
 go_wp2_with fail
 go_loopg [] (ts.length+1) (fun k wr=>∃l st' Al cl,ts.length-st'.pos+(if st'.bad=true then 0 else 1)<k/\l.length+(ts.length-st'.pos)+(if st'.bad=true then 0 else 1)<=ts.length+2/\Kfj ts k l st'=R/\Kfm B w1.heap.size ts A cap w6 wr nm (.slice Ai ins.length ci) (.slice Ao outs.length co) l Al cl st')
 case atStart=>
  refine⟨[d],sG,A7,c7,?_,?_,vi.out.symm,hatV⟩
  ·split <;> omega
  ·simp only [List.length_singleton];split <;> omega
 case round=>
  obtain⟨l,st',Al,cl,hm,cY,aa,aY⟩:=hrel;clear hatV;obtain⟨k,rfl⟩:∃k,gk=k+1:=⟨gk-1,Ua⟩;have wu:=aY.ps;have hle':=wu.le;have b2:=wu.c2;have hBw:=wu.lt;rw [Kfj] at aa
  cases hb:st'.bad
  ·rw [hb,if_neg Uh] at aa;rw [hb] at b2 hm cY;rw [if_neg Uh] at hm cY
   cases h2:Kc5 ts st' ⟨#[108,101,116]⟩
   ·rw [h2,if_neg Uh] at aa;have ae:=fun W' (h':X2 B ts A cap W' st')=>Kj1 h' ai;have hmv:=Kjc ts st';generalize Kez ts st'=D at ae hmv aa;obtain⟨d,sH⟩:=D;obtain⟨hmv1,hmv2⟩:=hmv;have hmv3:=hmv2.2 hle';replace hmv2:st'.pos<=sH.pos:=hmv2.1;unfold vaV at ae;dsimp only at ae hmv1 hmv3 aa;have hse:=Kig wu ⟨#[108,101,116]⟩;rw [h2] at hse;have HR:=Nf aa;clear aa
    go_wp2_with (go_at_call 41;go_loud (refine hse.mono ?_;rintro r ws ⟨rfl,uL⟩))
    have hats:=aY.on (J6.bel uL) (wu.later uL);have hpss:=hats.ps;have eS:=hats.lt;have q3:=hats.c3;refine Kd (fun V:World=>V.cell? ⟨w1.heap.size,3,none⟩=some (.slice (Al) (l).length (cl))) 5 3 Ue Gp ?_;simp only [List.size_toArray,Nl,Nm,Nat.zero_add,Nat.reduceAdd];have ar:(ws).drew.cell? ⟨w1.heap.size,3,none⟩=some (.slice (Al) (l).length (cl)):=q3;refine Ji 0 ar ?_;refine Ji 1 ar ?_;refine Ji 2 ar ?_;refine Kb 3 ?_;refine Jj fun K hK=>?_;go_simp;refine(ae _ (hpss).drew).mono ?_;rintro r wo ⟨rfl,hpo,hko⟩;dsimp only;have mz:=(hats.on (J6.refl _).drew (hpss).drew).on hko hpo;refine hK _ _ ⟨mz.c3,?_⟩;clear hK K
    try simp only [Act.put,sa1,sa2,sa3]
    refine Kb 4 ?_;refine Jj fun K hK=>?_;go_simp;refine hK _ _ ⟨J4 mz.c3,?_⟩;clear hK K
    try simp only [Act.put,sa1,sa2,sa3]
    have kR:=mz.on ((J6.refl wo).alloc (.cells #[.string d.name,.int .i64 d.type,.int .i64 d.ck,.string d.cn] 83)) (hpo.alloc _);have hwL:=mz.kept.size;refine Kh Ue ?_;refine Qx 5 ?_;refine Ji5 (.tmp 52) (.tmp 55) 35 rfl w6.heap.size 83 _ 4 48 Tryz.underlying35 Jc8 rfl Ua (.slice (Al) (l).length (cl)) (l).length (Xe (l)) wo.heap.size 1 1 (vaC d) rfl kR.own rfl rfl (fun j u hj=>Sb) Dl Ud Ua Ud ?_;intro v7 w7 my hg7 hv7;obtain⟨A7,c7,rfl,-,-⟩:=Jv my;have pr:=kR.mid hg7;obtain⟨m3,mf⟩:=pr;refine Qx 6 ?_;refine Jj fun K hK=>?_;go_simp;refine hK _ _ ?_;clear hK K
    try simp only [Act.put,sa1,sa2,sa3]
    refine Qx 7 ?_;refine Jj fun K hK=>?_;go_simp;refine hK _ _ ?_;clear hK K
    try simp only [Act.put,sa1,sa2,sa3]
    refine Ki Ue ?_;have hat7:=kR.app my hg7
    go_wp2_with fail
    go_roundg k
    case measure=>omega
    case rel=>
     refine⟨l ++ [d],sH,A7,c7,?_,?_,HR.out,hat7⟩
     ·rcases hmv1 with h|h
      ·rw [if_pos h];omega
      ·split <;> omega
     ·rw [Nk,List.length_singleton]
      rcases hmv1 with h|h
      ·rw [if_pos h];omega
      ·split <;> omega
   ·rw [h2,if_pos rfl] at aa;have hse:=Kig wu ⟨#[108,101,116]⟩;rw [h2] at hse;have HR:=Nf aa;clear aa;have hnL:=fun W' (h':X2 B ts A cap W' st')=>Koc h' ⟨#[108,101,116]⟩ ai
    go_wp2_with (first
     | (go_at_call 41;go_loud (refine hse.mono ?_;rintro r ws ⟨rfl,uL⟩;have hpL:=wu.later uL;have hkL:J6 (fun b=>b=B) wr ws:=J6.bel uL))
     | (go_at_call_of 37 (Value.string ⟨#[108,101,116]⟩);go_loud (refine(hnL _ hpL).mono ?_;rintro r w8 ⟨rfl,hp8,hk8⟩;have ml:=(aY.on hkL hpL).on hk8 hp8;have dx:=ml.kept;have hz8:=dx.size;have e0:=ml.c0;have e1:=ml.c1;have e2:=ml.c2;have e3:=ml.c3;have e4:=ml.c4;have kx:¬(W.heap.size=B\/W.heap.size=w1.heap.size):=Ua;have y0:=dx.cell kx z0;have y1:=dx.cell kx z1;have y2:=dx.cell kx z2;have y3:=dx.cell kx z3;have y4:=dx.cell kx z4;have yf:∀o,w8.frozen? ⟨W.heap.size,o,none⟩=false:=fun o=>(World.frozen?_of_block (dx.block _ pz kx)).trans (zf o);have hy8:=lt0 w1 w8;have hy8a:=lt0 W w8)))
    exact Tv
  ·rw [hb,if_pos rfl] at aa;rw [hb] at b2;have HR:=Nf aa;clear aa;have hnL:=fun W' (h':X2 B ts A cap W' st')=>Koc h' ⟨#[108,101,116]⟩ ai;have hpL:=wu;have hkL:J6 (fun b=>b=B) wr wr:=J6.refl _
   go_wp2_with (first
    | (go_at_call_of 37 (Value.string ⟨#[108,101,116]⟩);go_loud (refine(hnL _ hpL).mono ?_;rintro r w8 ⟨rfl,hp8,hk8⟩;have ml:=(aY.on hkL hpL).on hk8 hp8;have dx:=ml.kept;have hz8:=dx.size;have e0:=ml.c0;have e1:=ml.c1;have e2:=ml.c2;have e3:=ml.c3;have e4:=ml.c4;have kx:¬(W.heap.size=B\/W.heap.size=w1.heap.size):=Ua;have y0:=dx.cell kx z0;have y1:=dx.cell kx z1;have y2:=dx.cell kx z2;have y3:=dx.cell kx z3;have y4:=dx.cell kx z4;have yf:∀o,w8.frozen? ⟨W.heap.size,o,none⟩=false:=fun o=>(World.frozen?_of_block (dx.block _ pz kx)).trans (zf o);have hy8:=lt0 w1 w8;have hy8a:=lt0 W w8)))
   exact Tv
theorem Kne {B:Nat} {ts:List Tk} {A:Option Addr} {cap:Nat} {W:World} (h:X2 B ts A cap W ⟨0,false⟩) (ai:ts.length<=100000) :
  Calls Tryz.prog 17 #[.pointer (some ⟨B,0,none⟩)] W (Kjo B ts A cap W (Kew ts)):=by
 have bg:=fun W' (h':X2 B ts A cap W' ⟨0,false⟩)=>Koc h' ⟨#[110,111,100,101]⟩ ai;unfold Kew;generalize Kda ts ⟨0,false⟩ ⟨#[110,111,100,101]⟩=sA at bg ⊢;have aL:=fun W' (h':X2 B ts A cap W' sA)=>Kfd h' ai;generalize Kdn ts sA=N at aL ⊢;obtain⟨nm,sB⟩:=N;dsimp only at aL ⊢;have js:=fun W' (h':X2 B ts A cap W' sB)=>Jm4 h' ai;generalize Ker ts sB=D1 at js ⊢;obtain⟨ins,sC⟩:=D1;dsimp only;have sR:=fun W' (h':X2 B ts A cap W' sC)=>Koc h' ⟨#[114,101,116,117,114,110,115]⟩ ai;generalize Kda ts sC ⟨#[114,101,116,117,114,110,115]⟩=sD at sR ⊢;have gN:=fun W' (h':X2 B ts A cap W' sD)=>Jm4 h' ai;generalize Ker ts sD=D2 at gN ⊢;obtain⟨outs,sE⟩:=D2;dsimp only;have hn5:=fun W' (h':X2 B ts A cap W' sE)=>Koc h' ⟨#[59]⟩ ai;generalize Kda ts sE ⟨#[59]⟩=sF at hn5 ⊢
 cases hs:Kc5 ts sF ⟨#[118,97,114]⟩
 ·rw [if_neg Uh];exact Kl4 h ai bg aL js sR gN hn5 hs
 ·rw [if_pos rfl,Kdu hs];exact Knm h ai bg aL js sR gN hn5 hs
end Go.Proofs.YtdgjplldlfeolaaGreatDoor
