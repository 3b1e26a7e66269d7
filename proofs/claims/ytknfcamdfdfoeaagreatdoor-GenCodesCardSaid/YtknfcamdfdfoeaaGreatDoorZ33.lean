/- Lemmas. -/
import Derived.Test.YtknfcamdfdfoeaaGreatDoorMac
import Derived.Test.YtknfcamdfdfoeaaGreatDoorZ04
import Derived.Test.YtknfcamdfdfoeaaGreatDoorZ02
import Derived.Test.YtknfcamdfdfoeaaGreatDoorZ18
import Derived.Deep.RegionLaw
import Derived.Test.YtknfcamdfdfoeaaGreatDoorZ19
import Derived.Test.YtknfcamdfdfoeaaGreatDoorZ22
import Derived.Test.YtknfcamdfdfoeaaGreatDoorZ21
import Derived.Test.YtknfcamdfdfoeaaGreatDoorZ23
import Derived.Test.YtknfcamdfdfoeaaGreatDoorZ08
import Derived.Test.YtknfcamdfdfoeaaGreatDoorZ32
import Derived.Test.YtknfcamdfdfoeaaGreatDoorZ31
import Derived.BigRegion
set_option linter.unusedVariables false
set_option linter.unusedSimpArgs false
set_option maxRecDepth 100000
set_option maxHeartbeats 64000000
namespace Go.Proofs.YtknfcamdfdfoeaaGreatDoor
open Go.RowKit Go.Sort Go.Maps Go.ChangeMaps Go.WideMaps
theorem Jnz (e:Ex) (A:Option Addr) (cap:Nat) (w:World) (he:Jt w e A cap) (hl:e.kind=4->∃x r,e.sub=x :: r) :
  Calls Tryz.prog 73 #[exV e A cap] w fun r w'=>r = .returned (.int .i32 (Jai e))/\Below w.heap.size w w':=by
 have ai:=he.len;unfold maxLen at ai;obtain⟨bI,aD⟩:=ai;unfold exV
 by_cases hk:e.kind=4
 ·obtain⟨x,r,hs⟩:=hl hk;have hx:e.sub[0]?=some x:=by rw [hs];rfl
  have am:0<e.sub.length:=by rw [hs];simp
  have hv:Jai e=W32 (-x.n):=by unfold Jai;rw [if_pos hk,hs]
  obtain⟨b,off,A',cap',rfl,c0,c1,c2,c3,bd⟩:=he.get hx;have tk:(e.kind == 4)=true:=Vw;simp only [Nat.zero_mul,Nat.add_zero] at c0 c1 c2 c3;have fk:b<w.heap.size:=block_lt_of_cell c0;unfold W32 at hv;clear hk hs hl hx;have HV:=Lib.hid hv;clear hv
  go_enter Tryz.func73,Tryz.ntmps73
  go_wp2_with fail
  go_ret;exact⟨Jm (by rw [HV.out,IntWalk.i32_left]),Jb⟩
 ·have hv:Jai e=e.n:=by unfold Jai;rw [if_neg hk]
  have tk:(e.kind == 4)=false:=Vw;clear hk hl;have HV:=Lib.hid hv;clear hv
  go_enter Tryz.func73,Tryz.ntmps73
  exact Uc9
def Jdf (f:Int×ByteArray->Option Int) (l:List (Int×ByteArray)):Prop:=∀c,okC c->decide (0<(f c).getD 0)=inC l c
theorem Jw9:Jdf (fun _=>none) []:=fun c _=>by unfold inC;simp
def Jkb (f:Int×ByteArray->Option Int) (c:Int×ByteArray) (i:Int):Int×ByteArray->Option Int:=fun d=>if K9 c.1 c.2 d.1 d.2=true then some i else f d
theorem Jmm (f:Int×ByteArray->Option Int) (c:Int×ByteArray) (i:Int):Jkb f c i c=some i:=if_pos (Jvf c)
theorem Jkt (f:Int×ByteArray->Option Int) (c:Int×ByteArray) (i:Int) (d:Int×ByteArray) (h:d≠c):Jkb f c i d=f d:=if_neg fun e=>h (Jyj e).symm
theorem Jug {f:Int×ByteArray->Option Int} {l:List (Int×ByteArray)} (h:Jdf f l) (c:Int×ByteArray):Jdf (Jkb f c 1) (l ++ [c]):=fun d hd=>by
 rw [Jwh,<-h d hd];unfold Jkb
 cases hc:K9 c.1 c.2 d.1 d.2
 ·rw [if_neg Ul,Bool.or_false]
 ·rw [if_pos rfl,Bool.or_true];rfl
theorem Jxy (w:World):(zeroValue 3).run Tryz.prog w = .ok (.int .i64 0) w:=Kj w
def Jzo (M:Nat) (w0:World) (x:Ex):Prop:=∀(A:Option Addr) (cap:Nat) (c:Int×ByteArray),Jt w0 x A cap->okC c->∀(W:World) (n:Nat) (f:Int×ByteArray->Option Int) (cnt:Nat) (l:List (Int×ByteArray)),Below w0.heap.size w0 W->Q3 Tryz.prog 55 3 .i64 okC klC W M n f cnt->Jdf f l->n+x.size<=900000000->
  Calls Tryz.prog 72 #[.map (some M),exV x A cap,kvC c] W fun r w'=>r = .returned (.tuple #[])/\(∃n' f' cnt',Q3 Tryz.prog 55 3 .i64 okC klC w' M n' f' cnt'/\n'<=n+x.size/\Jdf f' (x.arrs l c))/\W.grownBy w' (some M)
theorem Jqs {k:Int} {s:ByteArray} {c:Int×ByteArray} {i:Nat} (h8:k≠8) (h9:k≠9) (bM:k≠10):K4 k s c i=c:=by unfold K4;rw [if_neg bM,if_neg Ua]
theorem Jtk {k:Int} {s:ByteArray} {c:Int×ByteArray} {i:Nat} (h:k=8\/k=9):K4 k s c i=(0,⟨#[]⟩):=by unfold K4;rw [if_neg Ua,if_pos h]
theorem Jjr {s:ByteArray} {c:Int×ByteArray} {i:Nat} : K4 10 s c i=(1+(i:Int),s):=by unfold K4;rw [if_pos rfl]
theorem Jr2 (M:Nat) (w0:World) (hM:w0.heap.size<=M) (e:Ex):e.OK->e.formed=true->Jzo M w0 e:=by
 induction e using Ex.ind with
 | h e ih0=>
 intro aw cO Ae ce c he hc W n f cnt l dZ kg fL hn;have ih:∀x∈e.sub,Jzo M w0 x:=fun x hx=>ih0 x hx (Ex.OK_sub aw hx) (Q9 cO x hx);have fE:e.name.size<=maxLen:=by cases e;exact aw.2.2.1
 have hmz:=fun h=>Jfj cO h;have hMW:=kg.lt;have ai:=he.len;unfold maxLen at ai;obtain⟨bI,aD⟩:=ai;have cE:=Ex.size_eq e;have ga:=Ex.arrs_eq l e c;obtain⟨ck,cs⟩:=c;clear ih0 aw cO;have HN:=Lib.hid kg;clear kg;have pV:=Lib.hid fL;clear fL;have iS:=Lib.hid ga;clear ga;have cP:=@Jl0;unfold exV kvC at *;dsimp only at *;obtain⟨R,hR⟩:∃R,R=e.arrs l (ck,cs):=⟨_,rfl⟩;rw [<-hR]
 by_cases bM:e.kind=10
 ·have tk7:(e.kind == 7)=false:=Sp;have tk8:(e.kind == 8)=false:=Sp;have tk9:(e.kind == 9)=false:=Sp;have tk10:(e.kind == 10)=true:=Sp;have h2:=hmz bM
  obtain⟨x,y,aT⟩:∃x y,e.sub = [x,y]:=by
   match hs:e.sub with
   | [x,y]=>exact⟨x,y,rfl⟩
   | []=>rw [hs] at h2;simp at h2
   | [_]=>rw [hs] at h2;simp at h2
   | _ :: _ :: _ :: _=>rw [hs] at h2;simp at h2
  have hA:=hR.trans iS.out;rw [if_neg Ua,aT,bM,Ex.arrsL,Ex.arrsL,Ex.arrsL,Jjr,Jjr] at hA;have hx:e.sub[0]?=some x:=Ff;have hy:e.sub[1]?=some y:=Ff;have ihx:=ih x (by rw [aT];simp);have ihy:=ih y (by rw [aT];simp);rw [aT] at cE;simp only [Ex.sizeL] at cE;have HW:=Lib.hid (he.later dZ);obtain⟨b,off,A1,k1,rfl,x0,x1,x2,x3,bC⟩:=(he.later dZ).get hx;obtain⟨b',off',A2,k2,pW,y0,y1,y2,y3,bd⟩:=(he.later dZ).get hy;injection pW with pW;injection pW with e1 e2;subst e1 e2;simp only [Nat.zero_mul,Nat.add_zero] at x0 x1 x2 x3;simp only [Nat.one_mul] at y0 y1 y2 y3;have ax:=(he.get hx);obtain⟨b',off',A1',k1',pW,z0,z1,z2,z3,hs1'⟩:=ax;injection pW with pW;injection pW with e1 e2;subst e1 e2;simp only [Nat.zero_mul,Nat.add_zero] at z0 z1 z2 z3;have cD:=Ja dZ z3;rw [x3] at cD;injection cD with cD;injection cD with e1 e2 e3;subst e1 e3;obtain⟨b',off',A2',k2',pW,z0',z1',z2',z3',hs2'⟩:=he.get hy;injection pW with pW;injection pW with e1 e2;subst e1 e2;have dz:=Ja dZ z3';rw [y3] at dz;injection dz with dz;injection dz with e1 e2 e3;subst e1 e3;have ln:okC (1+((0:Nat):Int),e.name):=⟨Vs,fE⟩;have jm:okC (1+((0+1:Nat):Int),e.name):=⟨Vs,fE⟩;have ak:=fun W' (gr:Below W.heap.size W W')=>ihx _ _ (1+((0:Nat):Int),e.name) hs1' ln W' n f cnt l (dZ.trans (gr.mono dZ.size)) (HN.out.bel gr) pV.out Ua;have dm:=fun W' n' f' cnt' (gr:Below w0.heap.size w0 W') (yp:Q3 Tryz.prog 55 3 .i64 okC klC W' M n' f' cnt') (xt:Jdf f' (x.arrs l (1+((0:Nat):Int),e.name))) (wg:n'+y.size<=900000000)=>ihy _ _ (1+((0+1:Nat):Int),e.name) hs2' jm W' n' f' cnt' _ gr yp xt wg;have dO:e.sub.length=2:=Ff;rw [dO];unfold exV kvC at ak dm;dsimp only at ak dm;simp only [Nat.zero_add] at ak dm hA;rw [show(1:Int)+((0:Nat):Int)=1 from rfl] at ak dm hA;rw [show(1:Int)+((1:Nat):Int)=2 from rfl] at dm hA;have HA:=Lib.hid hA;have fk:b<W.heap.size:=block_lt_of_cell x0;have hbM:b≠M:=by have hh:b<w0.heap.size:=block_lt_of_cell z0;omega
  clear hA hR iS bM aT hx hy ih ihx ihy z0 z1 z2 z3 z0' z1' z2' z3' ln jm bC bd hmz bI aD
  go_enter Tryz.func72,Tryz.ntmps72
  go_wp2_with fail
  go_region_law (first|(go_simp;go_wp2_with (go_at_call 72;go_loud (refine(ak _ Jb).mono ?_;rintro r w3 ⟨rfl,⟨n3,f3,cnt3,kV,sR,iT⟩,bJ⟩))))
  all_goals
   have fe:=bJ.size;simp at fe;have ft:∀k o u,k<W.heap.size+2->k≠M->(((W.alloc (.cells #[.int .i64 e.kind,.int .i32 e.n,.string e.name,.slice (some ⟨b,off,none⟩) 2 ce] 51)).alloc (.cells #[.int .i64 ck,.string cs] 55))).cell? ⟨k,o,none⟩=some u->w3.cell? ⟨k,o,none⟩=some u:=fun k o u hk aS hu=>Jr (bJ.block k Uj Se) hu;have p2:=ft W.heap.size 2 (.string e.name) Ua Ua Uq;have p3:=ft W.heap.size 3 (.slice (some ⟨b,off,none⟩) 2 ce) Ua Ua Uq;have v0:=ft b _ _ Ua hbM (J4 (J4 y0));have v1:=ft b _ _ Ua hbM (J4 (J4 y1));have v2:=ft b _ _ Ua hbM (J4 (J4 y2));have v3:=ft b _ _ Ua hbM (J4 (J4 y3));have rG:W.grownBy w3 (some M):=Kv (K0 (Jh (Jc (Jc (Below.refl _ _) _) _))) bJ;have rH:Below w0.heap.size w0 w3:=J2 dZ rG (fun k hk=>by injection hk with hk;omega) dZ.size;have hm3':∀W',Below w3.heap.size w3 W'->Q3 Tryz.prog 55 3 .i64 okC klC W' M n3 f3 cnt3:=fun W' h=>kV.bel h;have eG:1<2:=Ua;have h12':(1:Int)<((2:Nat):Int):=Ua;clear ft bJ kV x0 x1 x2 x3 y0 y1 y2 y3 ak HN pV
   go_wp2_with fail
   go_region_law (first|(go_simp;go_wp2_with (go_at_call 72;go_loud (refine(dm _ n3 f3 cnt3 (Jn rH (B:=w3.heap.size) Jb rH.size) (hm3' _ Jb) iT Ua).mono ?_;rintro r w4 ⟨rfl,⟨n4,f4,cnt4,sS,hn4,zB⟩,cg⟩))))
   all_goals
    have hg4':w3.grownBy w4 (some M):=Kv (K0 (Jh (Below.refl _ _))) cg
    go_wp2_with fail
    refine bodyPost_ret (results_none Ug _ _ _) rfl ?_;exact⟨rfl,⟨n4,f4,cnt4,sS,Ua,by rw [HA.out];exact zB⟩,Kv rG hg4'⟩
 have tk10:(e.kind == 10)=false:=Fb
 by_cases zC:e.kind=8\/e.kind=9
 ·have tk7:(e.kind == 7)=false:=Uj;have hA:=hR.trans iS.out;rw [if_neg Ua] at hA;have HA:=Lib.hid hA;have lD:∀i,K4 e.kind e.name (ck,cs) i=(0,⟨#[]⟩):=fun i=>Jtk zC;have lq:okC (0,⟨#[]⟩):=⟨Vs,Db⟩;have h7:e.kind≠7:=Ua;clear hA iS bM h7 hR
  have hk8:((e.kind == 8)=true/\(e.kind == 9)=false)\/((e.kind == 8)=false/\(e.kind == 9)=true):=by
   rcases zC with h|h
   ·left;rw [h];exact⟨rfl,rfl⟩
   ·right;rw [h];exact⟨rfl,rfl⟩
  clear zC
  rcases hk8 with ⟨tk8,tk9⟩|⟨tk8,tk9⟩
  all_goals
   go_enter Tryz.func72,Tryz.ntmps72
   go_wp2_with fail
   refine Jo fun W1 bt=>?_;have iw:Q3 Tryz.prog 55 3 .i64 okC klC W1 M n f cnt:=by rw [bt];exact HN.out.bel Jlo
   have ic:Jdf f l:=pV.out;have eR:n<=n+1:=Ua;have ez:W.grownBy W1 (some M):=by rw [bt];exact K0 Jlo
   have d0:W1.cell? ⟨W.heap.size+1,0,none⟩=some (.int .i64 0):=Lj;have d1:W1.cell? ⟨W.heap.size+1,1,none⟩=some (.string ⟨#[]⟩):=Lj;have af:W.heap.size+2<=W1.heap.size:=by rw [bt];simp
   clear bt;have uO:=Lib.hid iw;have kW:=Lib.hid ic;have kX:=Lib.hid ez;clear iw ic ez
   go_loopw [41] (fun i wr=>∃(k n2 cnt2:Nat) (f2:Int×ByteArray->Option Int) (l2:List (Int×ByteArray)),k<=e.sub.length/\i = .int .i64 k/\Hid (Q3 Tryz.prog 55 3 .i64 okC klC wr M n2 f2 cnt2)/\Hid (Jdf f2 l2)/\Hid (R=Ex.arrsL l2 e.kind e.name (ck,cs) k (e.sub.drop k))/\n2+Ex.sizeL (e.sub.drop k)<=n+e.size/\Hid (W1.grownBy wr (some M))) (fun i _=>e.sub.length-(intOf i).toNat)
   case atStart=>exact⟨0,n,cnt,f,l,Nat.zero_le _,rfl,uO,kW,Sb,Vm,Lib.hid (K0 (Below.refl _ _))⟩
   case round=>
    obtain⟨k,n2,cnt2,f2,l2,hk,rfl,pX,gI,aa,qW,bB⟩:=hrel;have bu:=bB.out.size;have bV:W.heap.size+1<wr.heap.size:=Ua;have gB:Below w0.heap.size w0 W1:=J2 dZ kX.out (fun b hb=>U1) dZ.size;have aC:Below w0.heap.size w0 wr:=J2 gB bB.out (fun b hb=>U1) gB.size;have d0':=Jr (a:=⟨W.heap.size+1,0,none⟩) (bB.out.block (W.heap.size+1) Ua Uj) d0;have d1':=Jr (a:=⟨W.heap.size+1,1,none⟩) (bB.out.block (W.heap.size+1) Ua Uj) d1
    by_cases am:k<e.sub.length
    ·have hx:e.sub[k]?=some e.sub[k]:=List.getElem?_eq_getElem am;have aj:e.sub[k]∈e.sub:=List.getElem_mem am;have hd:e.sub.drop k=e.sub[k] :: e.sub.drop (k+1):=List.drop_eq_getElem_cons am;generalize e.sub[k]=x at hx aj hd;obtain⟨b,off,A',cap',rfl,c0,c1,c2,c3,hs⟩:=he.get hx;have c0':=Ja aC c0;have c1':=Ja aC c1;have c2':=Ja aC c2;have c3':=Ja aC c3;have hr:=aa.out;rw [hd,Ex.arrsL,lD] at hr;rw [hd,Ex.sizeL] at qW;have az:=fun W' (gr:Below wr.heap.size wr W')=>ih x aj A' cap' (0,⟨#[]⟩) hs lq W' n2 f2 cnt2 l2 (aC.trans (gr.mono aC.size)) (pX.out.bel gr) gI.out Ua;unfold exV kvC at az;dsimp only at az;have HR:=Lib.hid hr;clear hr aa hd hx c0 c1 c2 c3
     go_wp2_with (first|(go_at_call 72;go_loud (refine(az _ Jb).mono ?_;rintro r w3 ⟨rfl,⟨n3,f3,cnt3,kV,sR,iT⟩,bJ⟩)))
     go_roundw
     case rel=>exact⟨k+1,n3,cnt3,f3,x.arrs l2 (0,⟨#[]⟩),Ua,Up,Lib.hid kV,Lib.hid iT,HR,Ua,Lib.hid (Kv bB.out (Kv (K0 (Jc (Below.refl _ _) _)) bJ))⟩
     case measure=>simp [intOf];omega
    ·obtain rfl:k=e.sub.length:=Ua;have hr:=aa.out;rw [List.drop_length,Ex.arrsL] at hr;rw [List.drop_length] at qW;clear aa;have HR:=Lib.hid hr;clear hr
     go_wp2_with fail
     go_end0
     exact⟨rfl,⟨n2,f2,cnt2,pX.out,Ua,by rw [HR.out];exact gI.out⟩,Kv kX.out bB.out⟩
 have tk8:(e.kind == 8)=false:=Uj;have tk9:(e.kind == 9)=false:=Uj;have lD:∀i,K4 e.kind e.name (ck,cs) i=(ck,cs):=fun i=>Jqs Ua Ua bM;have lq:okC (ck,cs):=hc
 by_cases h7:e.kind=7
 ·have tk7:(e.kind == 7)=true:=S9;have hA:=hR.trans iS.out;rw [if_pos h7] at hA;have HA:=Lib.hid hA;clear hA iS h7 zC bM hR
  go_enter Tryz.func72,Tryz.ntmps72
  go_wp2_with (first|(at_mapUpdate;go_loud (refine Jr3 Jl0 rfl (.tmp 12) (.tmp 13) (.const (.int .i64 1)) 108 rfl Tryz.underlying108 Tryz.underlying3 M n f cnt (ck,cs) 1 rfl (HN.out.bel Jb) Ua rfl rfl hc Ux (Jkb f (ck,cs) 1) (Jmm _ _ _) (fun y _ hy=>Jkt _ _ _ y hy) ?_;intro w2 cI aG;have q3:w2.cell? ⟨W.heap.size,3,none⟩=some (.slice Ae e.sub.length ce):=Jr (aG.block W.heap.size Mw Uj) Uq;have q4:w2.cell? ⟨W.heap.size+1,0,none⟩=some (.int .i64 ck):=Jr (aG.block (W.heap.size+1) Mw Uj) Uq;have q5:w2.cell? ⟨W.heap.size+1,1,none⟩=some (.string cs):=Jr (aG.block (W.heap.size+1) Mw Uj) Uq;have kI:=aG.size;simp at kI)))
  refine Jo fun W1 bt=>?_;subst bt;have ic:=Jug pV.out (ck,cs);have eR:n+1<=n+1:=Nat.le_refl _;have ez:W.grownBy W1 (some M):=Kv (K0 Jlo) aG;have af:W.heap.size+2<=W1.heap.size:=Ua;have iw:=cI;have d0:=q4;have d1:=q5;clear cI aG q3 q4 q5 kI;have uO:=Lib.hid iw;have kW:=Lib.hid ic;have kX:=Lib.hid ez;clear iw ic ez
  go_loopw [41] (fun i wr=>∃(k n2 cnt2:Nat) (f2:Int×ByteArray->Option Int) (l2:List (Int×ByteArray)),k<=e.sub.length/\i = .int .i64 k/\Hid (Q3 Tryz.prog 55 3 .i64 okC klC wr M n2 f2 cnt2)/\Hid (Jdf f2 l2)/\Hid (R=Ex.arrsL l2 e.kind e.name (ck,cs) k (e.sub.drop k))/\n2+Ex.sizeL (e.sub.drop k)<=n+e.size/\Hid (W1.grownBy wr (some M))) (fun i _=>e.sub.length-(intOf i).toNat)
  case atStart=>exact⟨0,n+1,_,Jkb f (ck,cs) 1,l ++ [(ck,cs)],Nat.zero_le _,rfl,uO,kW,Sb,Vm,Lib.hid (K0 (Below.refl _ _))⟩
  case round=>
   exact Tz
 ·have tk7:(e.kind == 7)=false:=S9;have hA:=hR.trans iS.out;rw [if_neg h7] at hA;have HA:=Lib.hid hA;clear hA iS h7 zC bM hR
  go_enter Tryz.func72,Tryz.ntmps72
  go_wp2_with fail
  refine Jo fun W1 bt=>?_;have iw:Q3 Tryz.prog 55 3 .i64 okC klC W1 M n f cnt:=by rw [bt];exact HN.out.bel Jlo
  have ic:Jdf f l:=pV.out;have eR:n<=n+1:=Ua;have ez:W.grownBy W1 (some M):=by rw [bt];exact K0 Jlo
  have d0:W1.cell? ⟨W.heap.size+1,0,none⟩=some (.int .i64 ck):=Lj;have d1:W1.cell? ⟨W.heap.size+1,1,none⟩=some (.string cs):=Lj;have af:W.heap.size+2<=W1.heap.size:=by rw [bt];simp
  clear bt;have uO:=Lib.hid iw;have kW:=Lib.hid ic;have kX:=Lib.hid ez;clear iw ic ez
  go_loopw [41] (fun i wr=>∃(k n2 cnt2:Nat) (f2:Int×ByteArray->Option Int) (l2:List (Int×ByteArray)),k<=e.sub.length/\i = .int .i64 k/\Hid (Q3 Tryz.prog 55 3 .i64 okC klC wr M n2 f2 cnt2)/\Hid (Jdf f2 l2)/\Hid (R=Ex.arrsL l2 e.kind e.name (ck,cs) k (e.sub.drop k))/\n2+Ex.sizeL (e.sub.drop k)<=n+e.size/\Hid (W1.grownBy wr (some M))) (fun i _=>e.sub.length-(intOf i).toNat)
  case atStart=>exact⟨0,n,cnt,f,l,Nat.zero_le _,rfl,uO,kW,Sb,Vm,Lib.hid (K0 (Below.refl _ _))⟩
  case round=>
   exact Tz
theorem Jua:(Tryz.prog.info? 76).map (fun i=>(i.zero,i.size,i.bytes))=some (some (.agg #[.string ⟨#[]⟩,.int .i64 0,.string ⟨#[]⟩,.int .i32 0]),4,48):=Ug
theorem Jdy (l:List Ce) (c:Ce):X7 (l ++ [c])=X7 l ++ [.string c.name,.int .i64 c.ck,.string c.cn,.int .i32 c.first]:=by unfold X7;simp
theorem Jx1 {P:Program} {k e:TypeId} {q:IntKind} {K:Type} {ok:K->Prop} {kv:K->Value} {kl:K->Lit} {w:World} (ks:Jer P k ok kv kl) {t:TypeId}
  (ht:P.underlying t=some (.map k e)) (he:P.underlying e=some (.int q))
  {b n:Nat} {f:K->Option Int} {c:Nat} {s:K} {i:Int} {x:Value} (hx:x=kv s) (ae:Q3 P k e q ok kl w b n f c) (hn:n<1000000000)
  (hs:ok s) (hi:(Lit.int q i).wf=true) (f':K->Option Int) (db:f' s=some i) (gO:∀y,ok y->y≠s->f' y=f y) :
  ∃w',(Instr.mapUpdate t (.map (some b)) x (.int q i)).run P w = .ok () w'/\Q3 P k e q ok kl w' b (n+1) f' (if (f s).isSome then c else c+1)/\w.grownBy w' (some b):=by
 subst hx;obtain⟨D,h1,h2,hc,h3⟩:=ae;have fR:WideAt.IsKeyLit (kl s):=ks.keyed.key (ks.read s hs);obtain⟨w',eH,h4,h5⟩:=h1.update ks.keyed ht U2 (ks.read s hs) (plainElem_int he hi)
 exact⟨w',eH,⟨_,h4,h2.put fR _,by rw [Maps.size_put h2,(h3 s hs).1,hc],fun y hy=>by
  by_cases oJ:y=s
  ·subst oJ;rw [has_put_same h2.isMap fR,atKey_put_same h2.isMap fR,db];exact Ul
  ·have aS:kl y≠kl s:=fun h=>oJ (ks.inj y s hy hs h);rw [has_put_other aS,atKey_put_other aS,(h3 y hy).1,(h3 y hy).2,gO y hy oJ];exact⟨rfl,rfl⟩⟩,h5⟩
structure Jd1 (W:World) (M F X bm bx base:Nat) (L:List (Int×ByteArray)) (cs:List Ce) (n:Nat) (v:Value):Prop where
 m:W.cell? ⟨bm,0,none⟩=some (.map (some M))
 x:W.cell? ⟨bx,0,none⟩=some (.pointer (some ⟨X,0,none⟩))
 x6:W.cell? ⟨X,6,none⟩=some v
 x7:W.cell? ⟨X,7,none⟩=some (.map (some F))
 met:∃n f c,Q3 Tryz.prog 55 3 .i64 okC klC W M n f c/\Jdf f L
 flg:∃f c,Q3 Tryz.prog 55 3 .i64 okC klC W F n f c
 own:W.ownsRow base 76 4 v cs.length (X7 cs)
 fz:W.frozen? ⟨X,6,none⟩=false
def Jxp (F X:Nat) (v:Value) (k:Nat):Prop:=k=F\/k=X\/some k=v.ownBlock
theorem Jhd (M F X bm bx base:Nat) (hM:M<base) (hF:F<base) (hX:X<base) (iQ:bm<base) (fk:bx<base) (n1:F≠X) (n2:F≠M) (n3:F≠bm) (n4:F≠bx) (n5:X≠M) (n6:X≠bm) (n7:X≠bx)
  (L:List (Int×ByteArray)) (ck:Int) (cs:ByteArray) (csl:List Ce) (n:Nat) (v:Value) (W:World) (hB:base<=W.heap.size) (st:Jd1 W M F X bm bx base L csl n v) (hc:okC (ck,cs)) (hn:n<=1000000) (hl:csl.length<=1000000) :
  Calls Tryz.prog 74 #[.agg #[.int .i64 ck,.string cs],.pointer (some ⟨bm,0,none⟩),.pointer (some ⟨bx,0,none⟩)] W fun r w'=>r = .returned (.tuple #[])/\(∃v',Jd1 w' M F X bm bx base L (if inC L (ck,cs)=true then csl ++ [Jb6 (ck,cs)] else csl) (n+1) v'/\(v'.ownBlock=v.ownBlock\/∀k,v'.ownBlock=some k->W.heap.size<=k))/\J6 (Jxp F X v) W w':=by
 obtain⟨m0,x0,x6,x7,⟨nM,f,c,fL,hM2⟩,⟨f2,c2,uP⟩,ae,eh⟩:=st;obtain⟨Av,cv,rfl,zD,nL⟩:=Jv ae;unfold maxLen at nL;have dV:=hM2 (ck,cs) hc;have z1:bm<W.heap.size:=Ua;have z2:bx<W.heap.size:=Ua;have z3:X<W.heap.size:=Ua;have z4:M<W.heap.size:=Ua;have z5:F<W.heap.size:=Ua;have hlk:=Jcb (w:=W.alloc (.cells #[.int .i64 ck,.string cs] 55)) Jl0 (x:= .agg #[.int .i64 ck,.string cs]) Tryz.underlying108 Tryz.underlying3 (Jxy _) rfl (fL.bel Jb) hc rfl;have wL:=Lib.hid uP;have HME:=Lib.hid fL;have kj:=Lib.hid hM2;generalize (f (ck,cs)).getD 0=r at dV hlk
 cases hb:inC L (ck,cs)
 ·have tr:¬(0:Int)<r:=by rw [hb] at dV;simpa using dV
  clear dV uP fL hM2 hb
  go_enter Tryz.func74,Tryz.ntmps74
  go_wp2_with fail
  go_end0
  have ab:Below W.heap.size W (W.alloc (.cells #[.int .i64 ck,.string cs] 55)):=Jb;exact⟨rfl,⟨_,⟨Ja ab m0,Ja ab x0,Ja ab x6,Ja ab x7,⟨nM,f,c,HME.out.bel ab,kj.out⟩,⟨f2,c2,(wL.out.bel ab).more Ua⟩,Jy ae ab,(Jf ab X 6 (block_lt_of_cell x6)).trans eh⟩,.inl rfl⟩,J6.bel ab⟩
 ·have tr:(0:Int)<r:=by rw [hb] at dV;simpa using dV
  clear dV uP fL hM2 hb;have hc64:(Lit.int .i64 (csl.length:Int)).wf=true:=Jok Vs;have uQ:=Jua
  go_enter Tryz.func74,Tryz.ntmps74
  go_wp2_with fail
  have zF:Q3 Tryz.prog 55 3 .i64 okC klC (W.alloc (.cells #[.int .i64 ck,.string cs] 55)).drew F n f2 c2:=wL.out.bel Jb;obtain⟨w2,cP,cI,aG⟩:=Jx1 Jl0 (x:= .agg #[.int .i64 ck,.string cs]) Tryz.underlying108 Tryz.underlying3 rfl zF Ua hc hc64 (Jkb f2 (ck,cs) csl.length) (Jmm _ _ _) (fun y _ hy=>Jkt _ _ _ y hy);have nT:J6 (fun k=>k=F) W w2:=(J6.bel (S:=fun k=>k=F) (Jh (Jc (Below.refl _ _) _))).trans' (J6.grown aG fun k hk=>by injection hk with hk;exact hk.symm);have dH:=aG.size;simp at dH;have b0:=nT.cell (fun h=>n4 h.symm) x0;have b6:=nT.cell (fun h=>n1 h.symm) x6;have b7:=nT.cell (fun h=>n1 h.symm) x7;have bm0:=nT.cell (fun h=>n3 h.symm) m0;have bf:w2.frozen? ⟨X,6,none⟩=false:=(World.frozen?_of_block (a:=⟨X,6,none⟩) (nT.block X z3 (fun h=>n1 h.symm))).trans eh;have jv:∀o u,(W.alloc (.cells #[.int .i64 ck,.string cs] 55)).drew.cell? ⟨W.heap.size,o,none⟩=some u->w2.cell? ⟨W.heap.size,o,none⟩=some u:=fun o u hu=>Jr (aG.block W.heap.size Ul Vc) hu;have e0:=jv 0 (.int .i64 ck) Uq;have e1:=jv 1 (.string cs) Uq;have ao:=nT.own (fun b hb he=>Ft) ae;have HM2':=Lib.hid cI;have HKF:=Lib.hid nT;have aq:base<=w2.heap.size:=Ua;have br:W.heap.size<w2.heap.size:=Ua;have y2:bx<w2.heap.size:=Ua;have y3:X<w2.heap.size:=Ua;have HM:=Lib.hid cI;have HKF:=Lib.hid nT;clear zF cI nT aG jv
  go_region
  clear cP hlk
  go_wp2_with fail
  obtain⟨S,hSd⟩:∃S:World->Prop,S=fun w'=>w'.cell? ⟨bx,0,none⟩=some (.pointer (some ⟨X,0,none⟩))/\w'.cell? ⟨X,6,none⟩=some (.slice Av csl.length cv)/\w'.cell? ⟨W.heap.size,0,none⟩=some (.int .i64 ck)/\w'.cell? ⟨W.heap.size,1,none⟩=some (.string cs):=⟨_,rfl⟩;have ar:S w2.drew:=by rw [hSd];exact⟨b0,b6,e0,e1⟩
  refine Kd S 9 3 Ug Gd ?_;simp only [List.size_toArray,List.length_cons,List.length_nil,Nat.zero_add,Nat.reduceAdd];rw [hSd] at ar;rw [hSd];clear hSd;refine Ji 0 ar ?_;refine Ji 1 ar ?_;refine Ji 2 ar ?_;refine Ji 3 ar ?_;refine Ji 4 ar ?_;refine Ji 5 ar ?_;refine Ji 6 ar ?_;refine Kb 7 ?_;refine Jj fun K hK=>?_;go_simp;have dr:∀u,(w2.alloc u).drew.cell? ⟨bx,0,none⟩=some (.pointer (some ⟨X,0,none⟩))/\(w2.alloc u).drew.cell? ⟨X,6,none⟩=some (.slice Av csl.length cv)/\(w2.alloc u).drew.cell? ⟨W.heap.size,0,none⟩=some (.int .i64 ck)/\(w2.alloc u).drew.cell? ⟨W.heap.size,1,none⟩=some (.string cs):=fun u=>⟨J4 b0,J4 b6,J4 e0,J4 e1⟩;refine hK _ _ ⟨dr _,?_⟩;clear hK K;refine Kb 8 ?_;refine Ji5 (.tmp 22) (.tmp 25) 61 rfl base 76 _ 4 48 Tryz.underlying61 uQ rfl Ua (.slice Av csl.length cv) csl.length (X7 csl) w2.heap.size 1 1 [.string ⟨#[]⟩,.int .i64 ck,.string cs,.int .i32 0] rfl (Kp (Js ao)) rfl rfl (fun j u hj=>by refine(Qo (w:=w2) (c:=#[.string ⟨#[]⟩,.int .i64 ck,.string cs,.int .i32 0]) (t:=76) rfl).trans ?_;simpa using hj) Uv Ua Ua Uj ?_;intro v3 w3 aE bJ iM;obtain⟨A3,c3,rfl,hc31,hc32⟩:=Jv aE;have uR:some X≠(Value.slice Av csl.length cv).ownBlock:=fun he=>by have:=(ae.lt X he.symm).1;omega
  have hne4:some bx≠(Value.slice Av csl.length cv).ownBlock:=fun he=>by have:=(ae.lt bx he.symm).1;omega
  have zG:some W.heap.size≠(Value.slice Av csl.length cv).ownBlock:=fun he=>by have:=(ae.lt W.heap.size he.symm).2;omega
  have k0:w3.cell? ⟨bx,0,none⟩=some (.pointer (some ⟨X,0,none⟩)):=Jr (bJ.block bx Uj hne4) (dr _).1;have k6:w3.cell? ⟨X,6,none⟩=some (.slice Av csl.length cv):=Jr (bJ.block X Uj uR) (dr _).2.1;have kf:w3.frozen? ⟨X,6,none⟩=false:=(World.frozen?_of_block (a:=⟨X,6,none⟩) (bJ.block X Uj uR)).trans ((Jf (Jh (Jc (Below.refl _ _) _)) X 6 Ua).trans bf);refine⟨⟨k0,k6,Jr (bJ.block W.heap.size Uj zG) (dr _).2.2.1,Jr (bJ.block W.heap.size Uj zG) (dr _).2.2.2⟩,Kh Ug ?_⟩
  try simp only [Act.put,sa1,sa2,sa3]
  refine Qx 9 ?_;refine Jj fun K hK=>?_;go_simp;refine hK _ _ ?_;clear hK K
  try simp only [Act.put,sa1,sa2,sa3]
  refine Qx 10 ?_;refine Jj fun K hK=>?_;go_simp;refine hK _ _ ?_;clear hK K
  try simp only [Act.put,sa1,sa2,sa3]
  refine Qx 11 ?_;refine Jj fun K hK=>?_;go_simp;refine hK _ _ ?_;clear hK K
  try simp only [Act.put,sa1,sa2,sa3]
  have lw:∀j,some j=(Value.slice Av csl.length cv).ownBlock->base<=j:=fun j h=>(ae.lt j h.symm).1
  have zH:J6 (fun k=>k=X\/some k=(Value.slice Av csl.length cv).ownBlock) w2 (w3.setCell ⟨X,6,none⟩ (.slice A3 (csl.length+1) c3)):=
   ((J6.bel (S:=fun k=>k=X\/some k=(Value.slice Av csl.length cv).ownBlock) (Jh (Jc (Below.refl w2.heap.size w2) _))).trans' (J6.grown bJ fun k hk=> .inr hk.symm)).setCell (.inl rfl) _ _
  have hK1:J6 (Jxp F X (.slice Av csl.length cv)) W (w3.setCell ⟨X,6,none⟩ (.slice A3 (csl.length+1) c3)):=
   (HKF.out.less fun k _ hk=> .inl hk).trans zH fun k _ hk=>by
    rcases hk with hk|hk
    ·exact .inr (.inl hk)
    ·exact .inr (.inr hk)
  have iE:Jd1 (w3.setCell ⟨X,6,none⟩ (.slice A3 (csl.length+1) c3)) M F X bm bx base L (csl ++ [Jb6 (ck,cs)]) (n+1) (.slice A3 (csl.length+1) c3):=by
   refine⟨zH.cell (fun h=>Udr) bm0,zH.cell (fun h=>Udr) b0,World.cell?_setCell_same _ _ _ k6,?_,?_,?_,?_,?_⟩
   ·exact(World.cell?_setCell_other _ _ _ _ (by intro he;injection he with e1 e2;exact absurd e2 Ux)).trans (Jr (bJ.block X Uj uR) (Zw (J4 b7)))
   ·exact⟨nM,f,c,HME.out.keep1 (hK1.block M z4 (fun h=>by rcases h with h|h|h;exact absurd h Ua;exact absurd h Ua;have:=lw _ h;omega)),kj.out⟩
   ·exact⟨_,_,HM.out.keep1 (zH.block F Ua (fun h=>Udr))⟩
   ·rw [Jdy,List.length_append];exact Kn aE (fun b hb he=>by have:=(aE.lt b hb).1;omega) _ _
   ·rw [World.frozen?_setCell];exact kf
  have zI:(Value.slice A3 (csl.length+1) c3).ownBlock=(Value.slice Av csl.length cv).ownBlock\/∀k,(Value.slice A3 (csl.length+1) c3).ownBlock=some k->W.heap.size<=k:=iM.imp id (fun h k hk=>by have:=h k hk;simp at this;omega);have pY:=Lib.hid iE;have HK1:=Lib.hid hK1;have HV3:=Lib.hid zI;clear hK1 zH iE zI;refine Ki Ug ?_
  go_wp2_with fail
  go_end0
  exact⟨rfl,⟨_,pY.out,HV3.out⟩,HK1.out⟩
theorem Jd1.later {W W':World} {M F X bm bx base:Nat} {L:List (Int×ByteArray)} {cs:List Ce} {n:Nat} {v:Value} (h:Jd1 W M F X bm bx base L cs n v) (hb:Below W.heap.size W W'):Jd1 W' M F X bm bx base L cs n v:=by
 obtain⟨m0,x0,x6,x7,⟨a,b,c,hm,hM⟩,⟨d,e,hf⟩,ae,eh⟩:=h;exact⟨Ja hb m0,Ja hb x0,Ja hb x6,Ja hb x7,⟨a,b,c,hm.bel hb,hM⟩,⟨d,e,hf.bel hb⟩,Jy ae hb,(Jf hb X 6 (block_lt_of_cell x6)).trans eh⟩
theorem Jc1 (m:List (Int×ByteArray)) (l:List (Int×ByteArray)) (c:Int×ByteArray):K3 m (l ++ [c])=if inC m c=true then K3 m l ++ [Jb6 c] else K3 m l:=by
 unfold K3;rw [List.filter_append,List.map_append,List.filter_cons]
 cases h:inC m c <;> simp
theorem Jnf {L:List Va} {k:Nat} {x:Va} (h:L[k]?=some x):X3 (L.take (k+1))=X3 (L.take k) ++ [(1,x.name)] ++ [(2,x.name)]:=by
 obtain⟨am,hx⟩:=List.getElem?_eq_some_iff.1 h;have e:L.take (k+1)=L.take k ++ [x]:=by rw [List.take_succ_eq_append_getElem am,hx]
 rw [e];unfold X3;exact Ul
end Go.Proofs.YtknfcamdfdfoeaaGreatDoor
namespace Go.Proofs.YtknfcamdfdfoeaaGreatDoor
open Go.RowKit Go.Sort
theorem Jzq:(Tryz.prog.info? 53).map (fun i=>(i.zero,i.size,i.bytes))=some (some (.agg #[.string ⟨#[]⟩,.int .i64 0,.int .i64 0,.int .i32 0,.string ⟨#[]⟩,.slice none 0 0,.int .i64 0,.int .i32 0,.string ⟨#[]⟩,.slice none 0 0]),10,136):=Ug
theorem Jik {w:World} {base:Nat} {e:TypeId} {g size:Nat} (hg:w.heap[g]?=some (.cells #[] e (0,0))) (hb:base<=g):w.ownsRow base e size (.slice (some ⟨g,0,none⟩) 0 0) 0 []:=
 ⟨Ul,.inr ⟨g,0,#[],rfl,hb,hg,Nat.le_refl _,Nat.zero_le _,Ul,Ul⟩⟩
theorem Jqa {B:Nat} {W w1:World} (hb:Below B W w1):∀b o,b<B->w1.cell? ⟨b,o,none⟩=W.cell? ⟨b,o,none⟩:=fun b o h=>hb.cell (p:=⟨b,o,none⟩) h
theorem Jo6 {B:Nat} {W w1:World} (hb:Below B W w1):∀b o,b<B->w1.frozen? ⟨b,o,none⟩=W.frozen? ⟨b,o,none⟩:=fun b o h=>hb.frozen (p:=⟨b,o,none⟩) h
theorem Jle {P:Program} {f:FuncId} {args:Array Value} {R:Ending->World->Prop} {W:World} (h:∀W0,W0=W->Calls P f args W0 R):Calls P f args W R:=h W rfl
theorem Jj6 {w:World} {o:Obj} {g:Nat} (hg:g=w.heap.size):(w.alloc o).heap[g]?=some o:=by subst hg;exact heap_alloc_new w o
structure Jll (z:Nat) (W0 wr:World) (v:Value):Prop where
 cell:∀b o,b<z+3->¬(b=z+1+1/\o=4)->wr.cell? ⟨b,o,none⟩=W0.cell? ⟨b,o,none⟩
 froz:∀b o,b<z+3->wr.frozen? ⟨b,o,none⟩=W0.frozen? ⟨b,o,none⟩
 here:wr.cell? ⟨z+1+1,4,none⟩=some v
 rest:∀k,z+3<=k->k<W0.heap.size->wr.heap[k]?=W0.heap[k]?
 size:W0.heap.size<=wr.heap.size
theorem Jll.step {z:Nat} {W0 wr w2:World} {v v2:Value} (h:Jll z W0 wr v) (hz:z+3<=W0.heap.size) (hs:∀k,k<W0.heap.size->w2.heap[k]?=wr.heap[k]?) (cE:wr.heap.size<=w2.heap.size):Jll z W0 (w2.setCell ⟨z+1+1,4,none⟩ v2) v2:=by
 have hh:w2.cell? ⟨z+1+1,4,none⟩=some v:=Jr (hs (z+1+1) Ua) h.here;refine⟨fun b o hb aS=>?_,fun b o hb=>?_,World.cell?_setCell_same _ _ _ hh,fun k h1 h2=>?_,?_⟩
 ·rw [World.cell?_setCell_other _ _ _ _ Gm,World.cell?_of_block (w:=wr) (hs b Ua)];exact h.cell b o hb aS
 ·rw [World.frozen?_setCell,World.frozen?_of_block (w:=wr) (hs b Ua)];exact h.froz b o hb
 ·rw [heap_setCell_other _ _ _ _ (by show k≠z+1+1;omega)];exact(hs k h2).trans (h.rest k h1 h2)
 ·have:=h.size;exact Uj
def Jc4 (B:Nat) (v:Value) (wr:World) (l:List Qe) (ls:List ((Option Addr×Nat)×(Option Addr×Nat))):Prop:=
 ∀(j:Nat) (q:Qe) (a:(Option Addr×Nat)×(Option Addr×Nat)),l[j]?=some q->ls[j]?=some a->Off B v.ownBlock wr (fun V=>Jt V q.first a.1.1 a.1.2/\Jt V q.e a.2.1 a.2.2)
theorem Jc4.step {B m1 m2:Nat} {v v2:Value} {wr w1 w2 w3:World} {l:List Qe} {q:Qe} {ls:List ((Option Addr×Nat)×(Option Addr×Nat))} {k:Nat} {a:(Option Addr×Nat)×(Option Addr×Nat)}
  (h:Jc4 B v wr l ls) (hk:ls.length=k) (hq:l[k]?=some q) (hB:B<=wr.heap.size) (iw:wr.heap.size<=m1) (cI:wr.heap.size<=m2)
  (n1:Off m1 none w1 (fun V=>Jt V q.first a.1.1 a.1.2)) (n2:Off m2 none w2 (fun V=>Jt V q.e a.2.1 a.2.2))
  (s0:∀b,b<wr.heap.size->some b≠v.ownBlock->w3.heap[b]?=wr.heap[b]?) (s1:∀b,m1<=b->b<w1.heap.size->w3.heap[b]?=w1.heap[b]?) (s2:∀b,m2<=b->b<w2.heap.size->w3.heap[b]?=w2.heap[b]?)
  (z1:w1.heap.size<=w2.heap.size) (z2:w2.heap.size<=w3.heap.size) (z0:wr.heap.size<=w1.heap.size)
  (hv:∀b,v.ownBlock=some b->b<wr.heap.size) (aI:v2.ownBlock=v.ownBlock\/∀b,v2.ownBlock=some b->w2.heap.size<=b):Jc4 B v2 w3 l (ls ++ [a]):=by
 have jv:∀b,v2.ownBlock=some b->b<wr.heap.size\/w2.heap.size<=b:=fun b hb=>by
  rcases aI with aI|aI
  ·rw [aI] at hb;exact .inl (hv b hb)
  ·exact .inr (aI b hb)
 intro j x c hx hc
 rcases Nat.lt_or_ge j ls.length with hj|hj
 ·rw [List.getElem?_append_left hj] at hc;refine(h j x c hx hc).grow (fun b _ hb aS=>s0 b hb aS) Ua ?_
  rcases aI with aI|aI
  ·exact .inl aI
  ·exact .inr fun b hb=>by have:=aI b hb;omega
 ·obtain rfl:j=ls.length:=by
   have:=(List.getElem?_eq_some_iff.1 hc).1;simp at this;omega
  rw [List.getElem?_append_right (Nat.le_refl _)] at hc;simp at hc;subst hc;obtain rfl:q=x:=by rw [<-hk,hx] at hq;injection hq with hq;exact hq.symm
  have f1:Off B v2.ownBlock w3 (fun V=>Jt V q.first a.1.1 a.1.2):=n1.fresh Ua s1 Ua fun b hb=>by have:=jv b hb;omega
  have f2:Off B v2.ownBlock w3 (fun V=>Jt V q.e a.2.1 a.2.2):=n2.fresh Ua s2 Ua fun b hb=>by have:=jv b hb;omega
  exact fun w' jC=>⟨f1 w' jC,f2 w' jC⟩
theorem Jc4.set {B z:Nat} {v:Value} {w:World} {l:List Qe} {ls:List ((Option Addr×Nat)×(Option Addr×Nat))} (h:Jc4 B v w l ls) (hz:z<B) (o:Nat) (u:Value):Jc4 B v (w.setCell ⟨z,o,none⟩ u) l ls:=
 fun j x c hx hc=>(h j x c hx hc).grow (fun b hb _ _=>heap_setCell_other w ⟨z,o,none⟩ b u (by show b≠z;omega)) Ul (.inl rfl)
structure Ji4 (z base:Nat) (ls:List ((Option Addr×Nat)×(Option Addr×Nat))) (w':World) (p:Pr) (a':PrA):Prop where
 low:z<=base
 high:base<=w'.heap.size
 vars:∀V:World,(∀k,z<=k->k<base->V.heap[k]?=w'.heap[k]?)->Ju V p.ins a'.A1 a'.c1/\Ju V p.outs a'.A2 a'.c2/\Ju V p.locals a'.A3 a'.c3
 len:ls.length=p.eqs.length
 own:w'.ownsRow base 53 10 (.slice a'.A4 p.eqs.length a'.c4) p.eqs.length (Jed p.eqs ls)
 off:Jc4 base (.slice a'.A4 p.eqs.length a'.c4) w' p.eqs ls
theorem Ji4.less {z z2 base:Nat} {ls:List ((Option Addr×Nat)×(Option Addr×Nat))} {w':World} {p:Pr} {a':PrA} (h:Ji4 z base ls w' p a') (hz:z2<=z):Ji4 z2 base ls w' p a':=
 ⟨Nat.le_trans hz h.low,h.high,fun V hV=>h.vars V fun k h1 h2=>hV k (Nat.le_trans hz h1) h2,h.len,h.own,h.off⟩
theorem Jvt (p:Pr) (a:PrA) (w:World) (hp:Kr w p a) (n1:p.ins.length<=1000000) (n2:p.outs.length<=1000000) (n3:p.locals.length<=1000000) (n4:p.eqs.length<=1000000)
  (cE:∀q∈p.eqs,q.first.size<=1000000/\q.e.size<=1000000) :
  Calls Tryz.prog 7 #[prV p a] w fun r w'=>(∃a' base ls,r = .returned (prV p a')/\Kr w' p a'/\Ji4 w.heap.size base ls w' p a')/\Below w.heap.size w w':=by
 have fC:=hp.ins;have aI:=hp.outs;have iM:=hp.locals;have bT:=hp.eqs;have cG:=hp.eqs.len;obtain⟨A1,c1,A2,c2,A3,c3,A4,c4⟩:=a;unfold maxLen at cG;dsimp only at fC aI iM bT cG;obtain⟨fT,fU⟩:=cG;have mF:=Lib.hid cE;clear cE hp;unfold prV;dsimp only
 go_enter Tryz.func7,Tryz.ntmps7
 go_wp2_with (first
  | (at_builtin;(refine K6 rfl (.tmp 7) (.tmp 9) 22 rfl (w.heap.size+3) 57 _ 4 48 Tryz.underlying22 Jc8 rfl Ua _ 0 [] A1 p.ins.length c1 (Xe p.ins) rfl (Jik (Jj6 Ul) Ua) rfl (fC.later Udj).cells (Jbg _) Ua Ua De ?_;intro u1 w1 ba ac;have hkw1:=Jqa ac;have hfw1:=Jo6 ac;have hzw1:w.heap.size+4<=w1.heap.size:=(by have:=ac.size;simp at this;omega);have hyw10:w.heap.size<w1.heap.size:=Ua;have hyw11:w.heap.size+1<w1.heap.size:=Ua;have hyw12:w.heap.size+1+1<w1.heap.size:=Ua;rw [Nat.zero_add,List.nil_append] at ba;obtain⟨B1,cb1,rfl,e1w1,e2w1⟩:=Jv ba;have gS:Below w.heap.size w w1:=(by first|exact Jn (a:=w) Udj ac Ua|skip)))
  | (at_builtin;(refine K6 rfl (.tmp 12) (.tmp 14) 22 rfl (w1.heap.size) 57 _ 4 48 Tryz.underlying22 Jc8 rfl Ua _ 0 [] A2 p.outs.length c2 (Xe p.outs) rfl (Jik (Jj6 Ul) Ua) rfl (aI.later Udj).cells (Jbg _) Ua Ua De ?_;intro u2 w2 ao aq;have xV:=Jqa aq;have hfw2:=Jo6 aq;have qb:w.heap.size+4<=w2.heap.size:=Ds;have hyw20:w.heap.size<w2.heap.size:=Ua;have hyw21:w.heap.size+1<w2.heap.size:=Ua;have hyw22:w.heap.size+1+1<w2.heap.size:=Ua;rw [Nat.zero_add,List.nil_append] at ao;obtain⟨B2,cb2,rfl,e1w2,e2w2⟩:=Jv ao;have iY:Below w.heap.size w w2:=(by first|exact Jn (a:=w) Udj aq Ua|skip)))
  | (at_builtin;(refine K6 rfl (.tmp 17) (.tmp 19) 22 rfl (w2.heap.size) 57 _ 4 48 Tryz.underlying22 Jc8 rfl Ua _ 0 [] A3 p.locals.length c3 (Xe p.locals) rfl (Jik (Jj6 Ul) Ua) rfl (iM.later Udj).cells (Jbg _) Ua Ua De ?_;intro u3 w3 aE aM;have hkw3:=Jqa aM;have hfw3:=Jo6 aM;have hzw3:w.heap.size+4<=w3.heap.size:=(by have:=aM.size;simp at this;omega);have hyw30:w.heap.size<w3.heap.size:=Ua;have hyw31:w.heap.size+1<w3.heap.size:=Ua;have hyw32:w.heap.size+1+1<w3.heap.size:=Ua;rw [Nat.zero_add,List.nil_append] at aE;obtain⟨B3,cb3,rfl,e1w3,e2w3⟩:=Jv aE;have rH:Below w.heap.size w w3:=(by first|exact Jn (a:=w) Udj aM Ua|skip))))
 have off1:=Ju.off_own' ba;have off2:=Ju.off_own' ao;have off3:=Ju.off_own' aE;have zz1:w1.heap.size+1<=w2.heap.size:=Ds;have zz2:w2.heap.size+1<=w3.heap.size:=by have:=aM.size;simp at this;omega
 refine Jo fun W0 ag=>?_;have ax:Below w.heap.size w W0:=by rw [ag];exact Udj
 have bD:W0.heap.size=w3.heap.size:=La
 have st3:∀k,w.heap.size+3<=k->k<w3.heap.size->W0.heap[k]?=w3.heap[k]?:=fun k h1 h2=>by
  rw [ag,heap_setCell_other _ _ _ _ G6,heap_setCell_other _ _ _ _ G6]
 have st2:∀k,w.heap.size+3<=k->k<w2.heap.size->W0.heap[k]?=w2.heap[k]?:=fun k h1 h2=>by
  rw [st3 k h1 Ua,aM.block k h2,heap_alloc_old _ _ Lg,heap_setCell_other _ _ _ _ G6]
 have st1:∀k,w.heap.size+3<=k->k<w1.heap.size->W0.heap[k]?=w1.heap[k]?:=fun k h1 h2=>by
  rw [st2 k h1 Ua,aq.block k h2,heap_alloc_old _ _ Lg,heap_setCell_other _ _ _ _ G6]
 have o1:Off (w.heap.size+3) none W0 (fun W=>Ju W p.ins B1 cb1):=off1.grow (fun k h1 h2 _=>st1 k h1 h2) Ua (.inl rfl);have o2:Off (w.heap.size+3) none W0 (fun W=>Ju W p.outs B2 cb2):=(off2.less (base:=w.heap.size+3) Ua).grow (fun k h1 h2 _=>st2 k h1 h2) Ua (.inl rfl);have o3:Off (w.heap.size+3) none W0 (fun W=>Ju W p.locals B3 cb3):=(off3.less (base:=w.heap.size+3) Ua).grow (fun k h1 h2 _=>st3 k h1 h2) Ua (.inl rfl);have p4:W0.cell? ⟨w.heap.size,4,none⟩=some (.slice A4 p.eqs.length c4):=Uc;have r0:W0.cell? ⟨w.heap.size+1,0,none⟩=some (.string ⟨#[]⟩):=Uc;have r1:W0.cell? ⟨w.heap.size+1,1,none⟩=some (.slice none 0 0):=Uc;have r2:W0.cell? ⟨w.heap.size+1,2,none⟩=some (.slice none 0 0):=Uc;have r3:W0.cell? ⟨w.heap.size+1,3,none⟩=some (.slice none 0 0):=Uc;have r4:W0.cell? ⟨w.heap.size+1,4,none⟩=some (.slice none 0 0):=Uc;have x0:W0.cell? ⟨w.heap.size+1+1,0,none⟩=some (.string p.name):=Uc;have x1:W0.cell? ⟨w.heap.size+1+1,1,none⟩=some (.slice B1 p.ins.length cb1):=Uc;have x2:W0.cell? ⟨w.heap.size+1+1,2,none⟩=some (.slice B2 p.outs.length cb2):=Uc;have x3:W0.cell? ⟨w.heap.size+1+1,3,none⟩=some (.slice B3 p.locals.length cb3):=Uc;have x4:W0.cell? ⟨w.heap.size+1+1,4,none⟩=some (.slice none 0 0):=Uc;have f0:W0.frozen? ⟨w.heap.size+1,0,none⟩=false:=Uc;have f1:W0.frozen? ⟨w.heap.size+1,1,none⟩=false:=Uc;have f2:W0.frozen? ⟨w.heap.size+1,2,none⟩=false:=Uc;have f3:W0.frozen? ⟨w.heap.size+1,3,none⟩=false:=Uc;have f4:W0.frozen? ⟨w.heap.size+1,4,none⟩=false:=Uc;have y4:W0.frozen? ⟨w.heap.size+1+1,4,none⟩=false:=Uc;have hW0s:w.heap.size+3<=W0.heap.size:=Ua;clear ag st1 st2 st3 off1 off2 off3 ba ao aE hkw1 xV hkw3 hfw1 hfw2 hfw3 ac aq aM gS iY rH zz1 zz2 bD;clear hzw1 qb hzw3 hyw10 hyw11 hyw12 hyw20 hyw21 hyw22 hyw30 hyw31 hyw32
 go_loopw [4] (fun i wr=>∃(k:Nat) (v:Value) (ls:List ((Option Addr×Nat)×(Option Addr×Nat))),k<=p.eqs.length/\i = .int .i64 k/\ls.length=k/\Jll w.heap.size W0 wr v/\wr.ownsRow W0.heap.size 53 10 v k (Jed (p.eqs.take k) ls)/\Jc4 W0.heap.size v wr p.eqs ls/\Below w.heap.size w wr) (fun i _=>p.eqs.length-(intOf i).toNat)
 case atStart=>
  refine⟨0,_,[],Nat.zero_le _,rfl,rfl,⟨fun _ _ _ _=>rfl,fun _ _ _=>rfl,x4,fun _ _ _=>rfl,Ua⟩,World.ownsRow_nil _ _ _ _,?_,ax⟩;intro j y a _ h;exact Lt
 case round=>
  obtain⟨k,v,ls,hk,rfl,kq,eg,ae,fb,ab⟩:=hrel;have bu:=eg.size;have q4:wr.cell? ⟨w.heap.size,4,none⟩=some (.slice A4 p.eqs.length c4):=(eg.cell _ _ Ua Ua).trans p4;have z4:wr.cell? ⟨w.heap.size+1+1,4,none⟩=some v:=eg.here;have zf:wr.frozen? ⟨w.heap.size+1+1,4,none⟩=false:=(eg.froz _ _ Ua).trans y4;have eV:w.heap.size<wr.heap.size:=Ua;have fF:w.heap.size+1<wr.heap.size:=Ua;have fa:w.heap.size+1+1<wr.heap.size:=Ua;have od:=Lib.hid kq;clear kq
  by_cases am:k<p.eqs.length
  ·have hx:p.eqs[k]?=some p.eqs[k]:=List.getElem?_eq_getElem am;have aj:p.eqs[k]∈p.eqs:=List.getElem_mem am;have aP:p.eqs.take (k+1)=p.eqs.take k ++ [p.eqs[k]]:=U6;generalize p.eqs[k]=q at hx aj aP;obtain⟨b,off,E1,k1,E2,k2,rfl,aH,⟨g0,g1,g2,g3,g4,g5,g6,g7,g8,g9,s1,s2⟩⟩:=(bT.later ab).get hx;obtain⟨sz1,sz2⟩:=mF.out q aj;have mG:=fun W h=>Jpi q.first sz1 E1 k1 W (s1.later h);have qE:=fun W h=>Jpi q.e sz2 E2 k2 W (s2.later h);unfold exV at mG qE;have HX:=Lib.hid hx;clear hx;have eZ:=Lib.hid aP;clear aP;clear sz1 sz2 aj
   go_wp2_with fail
   refine(mG _ Jb).mono ?_;rintro r wa ⟨⟨F1,m1,rfl,hnew1⟩,aA⟩;have aW:=Jg aA;have bS:=Jf aA;have cN:=aA.size
   (try simp at cN)
   have hya0:w.heap.size<wa.heap.size:=Ua;have aX:w.heap.size+1<wa.heap.size:=Ua;have eJ:w.heap.size+1+1<wa.heap.size:=Ua;have hya3:wr.heap.size<wa.heap.size:=Ua
   go_wp2_with fail
   refine Jle fun Wx iV=>?_;have fk:Below wr.heap.size wr Wx:=by rw [iV];exact(by repeat (first|exact Below.refl _ _|(with_reducible assumption)|refine Below.setCell ?_ (by exact Nat.le_refl _) _|refine Jd ?_ Uf|refine Jc ?_ _))
   have io:Wx.heap.size=wa.heap.size:=by rw [iV];simp
   have t0:Wx.cell? ⟨wr.heap.size,0,none⟩=some (.string q.name):=Ls;have t1:Wx.cell? ⟨wr.heap.size,1,none⟩=some (.int .i64 q.delay):=Ls;have t2:Wx.cell? ⟨wr.heap.size,2,none⟩=some (.int .i64 q.first.kind):=Ls;have t3:Wx.cell? ⟨wr.heap.size,3,none⟩=some (.int .i32 q.first.n):=Ls;have t4:Wx.cell? ⟨wr.heap.size,4,none⟩=some (.string q.first.name):=Ls;have t5:Wx.cell? ⟨wr.heap.size,5,none⟩=some (.slice F1 q.first.sub.length m1):=Ls;have t6:Wx.cell? ⟨wr.heap.size,6,none⟩=some (.int .i64 q.e.kind):=Ls;have t7:Wx.cell? ⟨wr.heap.size,7,none⟩=some (.int .i32 q.e.n):=Ls;have t8:Wx.cell? ⟨wr.heap.size,8,none⟩=some (.string q.e.name):=Ls;have t9:Wx.cell? ⟨wr.heap.size,9,none⟩=some (.slice E2 q.e.sub.length k2):=Ls;have tf6:Wx.frozen? ⟨wr.heap.size,6,none⟩=false:=Ls;have tf7:Wx.frozen? ⟨wr.heap.size,7,none⟩=false:=Ls;have tf8:Wx.frozen? ⟨wr.heap.size,8,none⟩=false:=Ls;have tf9:Wx.frozen? ⟨wr.heap.size,9,none⟩=false:=Ls;have stx:∀b,b≠wr.heap.size->Wx.heap[b]?=wa.heap[b]?:=fun b hb=>by rw [iV,heap_setCell_other _ _ _ _ G5,heap_setCell_other _ _ _ _ G5,heap_setCell_other _ _ _ _ G5,heap_setCell_other _ _ _ _ G5]
   have hbx2:Below w.heap.size w Wx:=Jn (a:=w) ab fk Ua;have kx:Wx.cell? ⟨w.heap.size+1+1,4,none⟩=some v:=Ja fk z4;have sd:wr.heap.size<Wx.heap.size:=Ua;have hxs0:w.heap.size+1+1<Wx.heap.size:=Ua;have hba1:wr.heap.size+1<=wa.heap.size:=Ut;clear iV aW bS g0 g1 g2 g3 g4 g5 g6 g7 g8 g9 mG;refine(qE _ fk).mono ?_;rintro r wb ⟨⟨F2,m2,rfl,hnew2⟩,bG⟩;have el:=Jg bG;have mJ:=Jf bG;have dH:=bG.size
   (try simp at dH)
   have hyb0:w.heap.size<wb.heap.size:=Ua;have ep:w.heap.size+1<wb.heap.size:=Ua;have oa:w.heap.size+1+1<wb.heap.size:=Ua;have hyb3:wr.heap.size<wb.heap.size:=Ua;have stb:∀b,b<Wx.heap.size->wb.heap[b]?=Wx.heap[b]?:=bG.block;have ur:Below wr.heap.size wr wb:=Jd fk bG;have kb:wb.cell? ⟨w.heap.size+1+1,4,none⟩=some v:=Ja bG kx;have rW:∀b,v.ownBlock=some b->b≠wr.heap.size:=fun b hb=>Mo;have STX:=Lib.hid stx;clear stx;have STB:=Lib.hid stb;clear stb
   go_wp2_with (first
    | (at_builtin;go_loud (refine Z2 rfl (.tmp 44) (.tmp 46) 23 rfl W0.heap.size 53 _ 10 136 Tryz.underlying23 Jzq rfl Ua v k (Jed (p.eqs.take k) ls) wb.heap.size 1 1 (eqC q ((F1,m1),(F2,m2))) rfl (Js (Kn (Kn (Kn (Kn (Jy ae ur) rW _ _) rW _ _) rW _ _) rW _ _)) rfl rfl (fun j u hj=>by rw [Qo Ul];simpa [eqC] using hj) (by simp [eqC,Value.oneCell']) Ua Ua Uj ?_;intro v2 w3 ao aG aI;obtain⟨B4,cb4,rfl,it,iu⟩:=Jv ao;have rq:=Jzb aG (a:=wr) (B:=wr.heap.size) (by repeat (first|exact Below.refl _ _|(with_reducible assumption)|refine Below.setCell ?_ (by exact Nat.le_refl _) _|refine Jn ?_ Uf Ua|refine Jc ?_ _));have gF:=Jii ae Ua rq aG;have k4:w3.cell? ⟨w.heap.size+1+1,4,none⟩=some v:=Jr (gF (w.heap.size+1+1) Ua) z4;have kf:w3.frozen? ⟨w.heap.size+1+1,4,none⟩=false:=((World.frozen?_of_block (a:=⟨w.heap.size+1+1,4,none⟩) (gF (w.heap.size+1+1) Ua)).trans zf);have KEEP:=Lib.hid gF;clear gF)))
   go_roundw
   case rel=>
    have vx:=rq.size;have hgs:=aG.size;simp at hgs;have zh:wa.heap.size<=wb.heap.size:=by have:=bG.size;omega
    refine⟨k+1,_,ls ++ [((F1,m1),(F2,m2))],Ua,Up,by have:=od.out;simp [this],(eg.step hW0s KEEP.out Ua),?_,?_,?_⟩
    ·rw [eZ.out,Jmw _ _ _ _ (by have:=od.out;simp;omega)];exact Jbd ao Ua _ _
    ·refine Jc4.set ?_ Ua _ _;refine fb.step od.out HX.out Ua Ul Ua hnew1 hnew2 (fun b hb aS=>(aG.block b Uj aS).trans (rq.block b hb)) (fun b h1 h2=>?_) (fun b h1 h2=>?_) zh Ua Ua (fun b hb=>(ae.lt b hb).2) ?_
     ·simp at h1;rw [aG.block b Uj (fun he=>by have:=(ae.lt b he.symm).2;omega),heap_alloc_old _ _ Uj,heap_setCell_other _ _ _ _ L3,heap_setCell_other _ _ _ _ L3,heap_setCell_other _ _ _ _ L3,heap_setCell_other _ _ _ _ L3,STB.out b Ua,STX.out b Ua]
     ·rw [aG.block b Uj (fun he=>by have:=(ae.lt b he.symm).2;omega),heap_alloc_old _ _ Uj,heap_setCell_other _ _ _ _ L3,heap_setCell_other _ _ _ _ L3,heap_setCell_other _ _ _ _ L3,heap_setCell_other _ _ _ _ L3]
     ·exact Ucy
    ·exact(J2 (Jn (a:=w) ab rq Ua) aG (fun b hb=>Ft) Uj).setCell (by show w.heap.size<=w.heap.size+1+1;omega) _
   case measure=>simp [intOf];omega
  ·obtain rfl:k=p.eqs.length:=Ua;rw [List.take_length] at ae;obtain⟨B4,cap4,rfl,iE⟩:=Jap.of_own ae od.out fb;have pt:=eg.rest;have pY:=Lib.hid iE;clear iE;have r0':wr.cell? ⟨w.heap.size+1,0,none⟩=some (.string ⟨#[]⟩):=(eg.cell _ _ Ua Ua).trans r0;have r1':wr.cell? ⟨w.heap.size+1,1,none⟩=some (.slice none 0 0):=(eg.cell _ _ Ua Ua).trans r1;have r2':wr.cell? ⟨w.heap.size+1,2,none⟩=some (.slice none 0 0):=(eg.cell _ _ Ua Ua).trans r2;have r3':wr.cell? ⟨w.heap.size+1,3,none⟩=some (.slice none 0 0):=(eg.cell _ _ Ua Ua).trans r3;have r4':wr.cell? ⟨w.heap.size+1,4,none⟩=some (.slice none 0 0):=(eg.cell _ _ Ua Ua).trans r4;have x0':wr.cell? ⟨w.heap.size+1+1,0,none⟩=some (.string p.name):=(eg.cell _ _ Ua Ua).trans x0;have x1':wr.cell? ⟨w.heap.size+1+1,1,none⟩=some (.slice B1 p.ins.length cb1):=(eg.cell _ _ Ua Ua).trans x1;have x2':wr.cell? ⟨w.heap.size+1+1,2,none⟩=some (.slice B2 p.outs.length cb2):=(eg.cell _ _ Ua Ua).trans x2;have x3':wr.cell? ⟨w.heap.size+1+1,3,none⟩=some (.slice B3 p.locals.length cb3):=(eg.cell _ _ Ua Ua).trans x3;have f0':wr.frozen? ⟨w.heap.size+1,0,none⟩=false:=(eg.froz _ _ Ua).trans f0;have f1':wr.frozen? ⟨w.heap.size+1,1,none⟩=false:=(eg.froz _ _ Ua).trans f1;have f2':wr.frozen? ⟨w.heap.size+1,2,none⟩=false:=(eg.froz _ _ Ua).trans f2;have f3':wr.frozen? ⟨w.heap.size+1,3,none⟩=false:=(eg.froz _ _ Ua).trans f3;have f4':wr.frozen? ⟨w.heap.size+1,4,none⟩=false:=(eg.froz _ _ Ua).trans f4;have og:=Lib.hid pt;clear pt;clear r0 r1 r2 r3 r4 x0 x1 x2 x3 x4 f0 f1 f2 f3 f4 p4
   go_wp2_with fail
   refine bodyPost_ret (v:=prV p ⟨B1,cb1,B2,cb2,B3,cb3,B4,cap4⟩) (by simp [prV,results,Tryz.results7,go_sem, *]) rfl ⟨⟨⟨B1,cb1,B2,cb2,B3,cb3,B4,cap4⟩,W0.heap.size,ls,rfl,?_,?_⟩,?_⟩
   ·have cP:∀b,w.heap.size+3<=b->_=wr.heap[b]?:=fun b hb=>((heap_setCell_other _ ⟨w.heap.size+1,4,none⟩ b (.slice B4 p.eqs.length cap4) Vn).trans ((heap_setCell_other _ ⟨w.heap.size+1,3,none⟩ b (.slice B3 p.locals.length cb3) Vn).trans ((heap_setCell_other _ ⟨w.heap.size+1,2,none⟩ b (.slice B2 p.outs.length cb2) Vn).trans ((heap_setCell_other _ ⟨w.heap.size+1,1,none⟩ b (.slice B1 p.ins.length cb1) Vn).trans (heap_setCell_other wr ⟨w.heap.size+1,0,none⟩ b (.string p.name) Vn)))));refine⟨o1 _ fun b h1 h2 _=>(cP b h1).trans (og.out b h1 h2),o2 _ fun b h1 h2 _=>(cP b h1).trans (og.out b h1 h2),o3 _ fun b h1 h2 _=>(cP b h1).trans (og.out b h1 h2),pY.out _ fun b h1 h2 _=>cP b Ua⟩
   ·have cP:∀b,w.heap.size+3<=b->_=wr.heap[b]?:=fun b hb=>((heap_setCell_other _ ⟨w.heap.size+1,4,none⟩ b (.slice B4 p.eqs.length cap4) Vn).trans ((heap_setCell_other _ ⟨w.heap.size+1,3,none⟩ b (.slice B3 p.locals.length cb3) Vn).trans ((heap_setCell_other _ ⟨w.heap.size+1,2,none⟩ b (.slice B2 p.outs.length cb2) Vn).trans ((heap_setCell_other _ ⟨w.heap.size+1,1,none⟩ b (.slice B1 p.ins.length cb1) Vn).trans (heap_setCell_other wr ⟨w.heap.size+1,0,none⟩ b (.string p.name) Vn)))));refine⟨Ua,Uj,fun V hV=>⟨o1 _ fun b h1 h2 _=>(hV b Ua h2).trans ((cP b h1).trans (og.out b h1 h2)),o2 _ fun b h1 h2 _=>(hV b Ua h2).trans ((cP b h1).trans (og.out b h1 h2)),o3 _ fun b h1 h2 _=>(hV b Ua h2).trans ((cP b h1).trans (og.out b h1 h2))⟩,od.out,?_,?_⟩
    ·exact Jbd (Jbd (Jbd (Jbd (Jbd ae Ua _ _) Ua _ _) Ua _ _) Ua _ _) Ua _ _
    ·exact((((fb.set Ua _ _).set Ua _ _).set Ua _ _).set Ua _ _).set Ua _ _
   ·exact((((ab.setCell Vv _).setCell Vv _).setCell Vv _).setCell Vv _).setCell Vv _
theorem Jxb (p:Pr) (a:PrA) (w:World) (hp:Kr w p a) (n1:p.ins.length<=1000000) (n2:p.outs.length<=1000000) (n3:p.locals.length<=1000000) (n4:p.eqs.length<=1000000)
  (cE:∀q∈p.eqs,q.first.size<=1000000/\q.e.size<=1000000) :
  Calls Tryz.prog 7 #[prV p a] w fun r w'=>(∃a',r = .returned (prV p a')/\Kr w' p a')/\Below w.heap.size w w':=by
 refine(Jvt p a w hp n1 n2 n3 n4 cE).mono ?_;rintro r w' ⟨⟨a',base,ls,rfl,aY,_⟩,hb⟩;exact⟨⟨a',rfl,aY⟩,hb⟩
end Go.Proofs.YtknfcamdfdfoeaaGreatDoor
namespace Go.Proofs.YtknfcamdfdfoeaaGreatDoor
open Go.RowKit Go.Sort Go.Maps Go.ChangeMaps Go.WideMaps
theorem Jta (p:Pr) (a:PrA) (w:World) (hg:Ql w) (hp:Kr w p a) (aw:Q4 p) (n1:p.ins.length<=1000000) (n2:p.outs.length<=1000000) (n3:p.locals.length<=1000000) (n4:p.eqs.length<=1000000) (aN:Ks p≠(0,0,0)) :
  Calls Tryz.prog 41 #[prV p a] w fun r w'=>r = .returned (.tuple #[.pointer none,fV (Ks p)])/\Below w.heap.size w w':=by
 have aV:=fun W h=>Jk3 p a W (hg.later h) (hp.later h) aw n1 n2 n3 n4
 have aS:((Ks p).1 == 0 && (Ks p).2.1 == 0 && (Ks p).2.2 == 0)=false:=by
  exact Ub8
 have dp:∀w,(Op.equalIn 10000 34 (.agg #[.int .i64 (Ks p).1,.int .i64 (Ks p).2.1,.int .i64 (Ks p).2.2]) (.agg #[.int .i64 0,.int .i64 0,.int .i64 0])).run Tryz.prog w = .ok false w:=fun w=>by rw [Zr,aS]
 have fM:Tryz.prog.eqGuardType Tryz.prog.depth 34=false:=Ug;clear aN aS;obtain⟨A1,c1,A2,c2,A3,c3,A4,c4⟩:=a;unfold prV fV at *;dsimp only at *;generalize (Ks p).1=k1 at *;generalize (Ks p).2.1=k2 at *;generalize (Ks p).2.2=k3 at *;clear hg hp aw n1 n2 n3 n4
 go_enter Tryz.func41,Tryz.ntmps41
 go_wp2_with (first|(go_at_call 71;refine(aV _ Jb).mono ?_;rintro r wa ⟨rfl,aA⟩;have aW:=Jg aA;have bS:=Jf aA;have cN:w.heap.size+2<=wa.heap.size:=Ut;have dG:w.heap.size<wa.heap.size:=Ua;have aX:w.heap.size+1<wa.heap.size:=Ua))
 go_region
 all_goals
  go_wp2_with fail
  refine bodyPost_ret (v:= .tuple #[.pointer none,.agg #[.int .i64 k1,.int .i64 k2,.int .i64 k3]]) Gt rfl ⟨rfl,?_⟩
  (repeat refine Jh ?_)
  exact Km
def Jkv (p:Pr) (w:World) (r:Ending) (w':World):Prop:=
 (if 16<(Jq p).length then r = .returned (.tuple #[.pointer none,fV (4,0,3)]) else ∃X v,r = .returned (.tuple #[.pointer (some ⟨X,0,none⟩),fV (0,0,0)])/\w'.cell? ⟨X,6,none⟩=some v/\w'.ownsRow w.heap.size 76 4 v (Jq p).length (X7 (Jq p)))/\Below w.heap.size w w'
theorem Jdv (w:World):(zeroValue 55).run Tryz.prog w = .ok (kvC (0,⟨#[]⟩)) w:=Ug
theorem Jla (p:Pr) (a:PrA) (w:World) (hg:Ql w) (hp:Kr w p a) (aw:Q4 p) (n1:p.ins.length<=1000000) (n2:p.outs.length<=1000000) (n3:p.locals.length<=1000000) (n4:p.eqs.length<=1000000) (aN:Ks p=(0,0,0)) :
  Calls Tryz.prog 41 #[prV p a] w (Jkv p w):=by
 have bO:=Jff aN;have aV:=fun W h=>Jk3 p a W (hg.later h) (hp.later h) aw n1 n2 n3 n4;have eL:=fun W h=>Jfr p a W (hg.later h) (hp.later h) aw n1 n2 n3 n4;have aJ:=fun W h=>Jcv p a W (hp.later h) n1 n2 n3;rw [aN] at aV;have dp:∀w,(Op.equalIn 10000 34 (.agg #[.int .i64 0,.int .i64 0,.int .i64 0]) (.agg #[.int .i64 0,.int .i64 0,.int .i64 0])).run Tryz.prog w = .ok true w:=fun w=>So;have fM:Tryz.prog.eqGuardType Tryz.prog.depth 34=false:=Ug;have qO:=Lib.hid hp.eqs;have kc:=Lib.hid aw.eqs;have cG:=hp.eqs.len;unfold maxLen at cG;obtain⟨fT,fU⟩:=cG;obtain⟨A1,c1,A2,c2,A3,c3,A4,c4⟩:=a;unfold prV fV at *;dsimp only at *;have gI:=@run_makeMap Tryz.prog;clear aN hg hp aw
 go_enter Tryz.func41,Tryz.ntmps41
 go_wp2_with (first|(go_at_call 71;refine(aV _ Jb).mono ?_;rintro r wa ⟨rfl,aA⟩;have aW:=Jg aA;have bS:=Jf aA;have cN:w.heap.size+2<=wa.heap.size:=Ut;have dG:w.heap.size<wa.heap.size:=Ua;have aX:w.heap.size+1<wa.heap.size:=Ua))
 refine Jo fun W0 ag=>?_;have ax:Below w.heap.size w W0:=Uo;have aQ:Below wa.heap.size wa W0:=Uo;have bD:W0.heap.size=wa.heap.size+5:=La;have p0:W0.cell? ⟨w.heap.size,0,none⟩=some (.string p.name):=Ja aQ Udn;have p1:W0.cell? ⟨w.heap.size,1,none⟩=some (.slice A1 p.ins.length c1):=Ja aQ Udn;have p2:W0.cell? ⟨w.heap.size,2,none⟩=some (.slice A2 p.outs.length c2):=Ja aQ Udn;have p3:W0.cell? ⟨w.heap.size,3,none⟩=some (.slice A3 p.locals.length c3):=Ja aQ Udn;have p4:W0.cell? ⟨w.heap.size,4,none⟩=some (.slice A4 p.eqs.length c4):=Ja aQ Udn;have g0:W0.cell? ⟨w.heap.size+1,0,none⟩=some (.int .i64 0):=Ja aQ Udn;have g1:W0.cell? ⟨w.heap.size+1,1,none⟩=some (.int .i64 0):=Ja aQ Udn;have g2:W0.cell? ⟨w.heap.size+1,2,none⟩=some (.int .i64 0):=Ja aQ Udn;have f0:W0.frozen? ⟨w.heap.size+1,0,none⟩=false:=(Jf aQ _ _ aX).trans ((bS _ _ Ul).trans Uq);have f1:W0.frozen? ⟨w.heap.size+1,1,none⟩=false:=(Jf aQ _ _ aX).trans ((bS _ _ Ul).trans Uq);have f2:W0.frozen? ⟨w.heap.size+1,2,none⟩=false:=(Jf aQ _ _ aX).trans ((bS _ _ Ul).trans Uq);have bx0:W0.cell? ⟨wa.heap.size+1+1+1+1,0,none⟩=some (.pointer (some ⟨wa.heap.size+1+1+1,0,none⟩)):=Uc;have x5:W0.cell? ⟨wa.heap.size+1+1+1,5,none⟩=some (.map (some (wa.heap.size+1))):=Uc;have x6:W0.cell? ⟨wa.heap.size+1+1+1,6,none⟩=some (.slice none 0 0):=Uc;have x7:W0.cell? ⟨wa.heap.size+1+1+1,7,none⟩=some (.map (some (wa.heap.size+1+1))):=Uc;have x8:W0.cell? ⟨wa.heap.size+1+1+1,8,none⟩=some (.slice none 0 0):=Uc;have fx6:W0.frozen? ⟨wa.heap.size+1+1+1,6,none⟩=false:=Uc;have fx8:W0.frozen? ⟨wa.heap.size+1+1+1,8,none⟩=false:=Uc
 have wC:Qd Tryz.prog 9 clkR okS klS okC klC (0,⟨#[]⟩) W0 (wa.heap.size+1) 0 (fun _=>none) 0:=by
  have h1:=Qd.made (P:=Tryz.prog) (k:=9) (R:=clkR) (ok:=okS) (kl:=klS) (okv:=okC) (vl:=klC) (z:=((0:Int),(⟨#[]⟩:ByteArray))) ⟨Vs,Ux⟩ (wa.alloc (.cells #[.int .i64 0,.int .i64 0,.int .i64 0] 34));have h2:=h1.bel (w':=W0) Uo;exact Lg
 have gZ:Q3 Tryz.prog 55 3 .i64 okC klC W0 (wa.heap.size+1+1) 0 (fun _=>none) 0:=by
  have h1:=Q3.made (P:=Tryz.prog) (k:=55) (e:=3) (q:= .i64) (ok:=okC) (kl:=klC) ((wa.alloc (.cells #[.int .i64 0,.int .i64 0,.int .i64 0] 34)).alloc (.map #[] 0));have h2:=h1.bel (w':=W0) Uo;exact Lg
 generalize fk:wa.heap.size+1+1+1+1=bx at *;generalize hXX:wa.heap.size+1+1+1=X at *;generalize hFF:wa.heap.size+1+1=F at *;generalize hBt:wa.heap.size+1=Bt at *;have wE:=Lib.hid wC;have HMF:=Lib.hid gZ;clear ag wC gZ aW bS gI aV
 have hS:∀w',J6 (fun k=>k=X) W0 w'->w'.cell? ⟨bx,0,none⟩=some (.pointer (some ⟨X,0,none⟩))/\w'.cell? ⟨w.heap.size,0,none⟩=some (.string p.name)/\w'.cell? ⟨w.heap.size,1,none⟩=some (.slice A1 p.ins.length c1)/\w'.cell? ⟨w.heap.size,2,none⟩=some (.slice A2 p.outs.length c2)/\w'.cell? ⟨w.heap.size,3,none⟩=some (.slice A3 p.locals.length c3)/\w'.cell? ⟨w.heap.size,4,none⟩=some (.slice A4 p.eqs.length c4):=
  fun w' hk=>⟨hk.cell Ua bx0,hk.cell Ua p0,hk.cell Ua p1,hk.cell Ua p2,hk.cell Ua p3,hk.cell Ua p4⟩
 have HS:=Lib.hid hS;clear hS
 go_region_held3 (fun w'=>w'.cell? ⟨bx,0,none⟩=some (.pointer (some ⟨X,0,none⟩))/\w'.cell? ⟨w.heap.size,0,none⟩=some (.string p.name)/\w'.cell? ⟨w.heap.size,1,none⟩=some (.slice A1 p.ins.length c1)/\w'.cell? ⟨w.heap.size,2,none⟩=some (.slice A2 p.outs.length c2)/\w'.cell? ⟨w.heap.size,3,none⟩=some (.slice A3 p.locals.length c3)/\w'.cell? ⟨w.heap.size,4,none⟩=some (.slice A4 p.eqs.length c4))
  (first|exact HS.out _ (J6.bel (Jh (Below.refl _ _)))|exact HS.out _ cD|exact HS.out _ (cD.setCell rfl _ _))
  (first|(go_at_call 24;refine(eL _ (Jh ax)).mono ?_;rintro r w1 ⟨⟨vo,rfl,ae⟩,ac⟩;have cD:J6 (fun k=>k=X) W0 w1:=J6.bel (Jd (Jh (Below.refl _ _)) ac);obtain⟨Ao,co,rfl,xW,tW⟩:=Jv ae;have y8:w1.cell? ⟨X,8,none⟩=some (.slice none 0 0):=Ja (Jd (Jh (Below.refl _ _)) ac) x8;have fy8:w1.frozen? ⟨X,8,none⟩=false:=((Jf (Jd (Jh (Below.refl _ _)) ac)) X 8 Ua).trans fx8))
 refine Zc fun W1 bt=>?_;have aH:Below W0.heap.size W0 w1:=Jd (Jh (Below.refl _ _)) ac;have jw:J6 (fun k=>k=X) W0 W1:=by rw [bt];exact cD.setCell rfl _ _
 have hX8:∀o,o≠8->W1.cell? ⟨X,o,none⟩=w1.cell? ⟨X,o,none⟩:=fun o ho=>by rw [bt];exact World.cell?_setCell_other _ _ _ _ Le
 have hzA:=jw.size;have q5:=(hX8 5 Ux).trans (Ja aH x5);have q6:=(hX8 6 Ux).trans (Ja aH x6);have q7:=(hX8 7 Ux).trans (Ja aH x7);have fq6:W1.frozen? ⟨X,6,none⟩=false:=by rw [bt,World.frozen?_setCell];exact(Jf aH X 6 Ua).trans fx6
 have q0:=jw.cell Ua bx0;have r0:=jw.cell Ua p0;have r1:=jw.cell Ua p1;have r2:=jw.cell Ua p2;have r3:=jw.cell Ua p3;have r4:=jw.cell Ua p4;have s0:=jw.cell Ua g0;have s1:=jw.cell Ua g1;have s2:=jw.cell Ua g2;have t0:W1.frozen? ⟨w.heap.size+1,0,none⟩=false:=(World.frozen?_of_block (a:=⟨w.heap.size+1,0,none⟩) (jw.block (w.heap.size+1) Ua Ua)).trans f0;have t1:W1.frozen? ⟨w.heap.size+1,1,none⟩=false:=(World.frozen?_of_block (a:=⟨w.heap.size+1,1,none⟩) (jw.block (w.heap.size+1) Ua Ua)).trans f1;have t2:W1.frozen? ⟨w.heap.size+1,2,none⟩=false:=(World.frozen?_of_block (a:=⟨w.heap.size+1,2,none⟩) (jw.block (w.heap.size+1) Ua Ua)).trans f2;have hbA:Below w.heap.size w W1:=J6.below ax jw (fun k hk he=>Ua);have zJ:=Lib.hid (wE.out.keep1 (jw.block Bt Ua Ua));have HMF1:=Lib.hid (HMF.out.keep1 (jw.block F Ua Ua));clear cD hX8 bt aH ac y8 fy8 ae wE HMF HS jw x5 x6 x7 x8 fx6 fx8 bx0 p0 p1 p2 p3 p4 g0 g1 g2 f0 f1 f2 eL aA aQ dG aX
 go_wp2_with (first|(go_at_call 42;go_loud (refine(aJ _ hbA).mono ?_;rintro r wb ⟨⟨Av,cv,rfl,ae⟩,aH⟩;have el:=Jg aH;have dH:=aH.size;have cR:=Ju.of_own ae)))
 have cY:=cR.len;unfold maxLen at cY;obtain⟨fH,fI⟩:=cY;have hL3:(Je p).length<=24:=bO.small.2.2.1;have HNV:=Lib.hid bO.nodup;have HVF:=Lib.hid bO.vars;have cC:=Lib.hid bO;generalize qR:Je p=L at *;have yC:=Lib.hid (Ju.off_own' ae);have rI:=Lib.hid (zJ.out.bel aH);have q0':=Ja aH q0;have q5':=Ja aH q5;have hBtW:Bt<W1.heap.size:=Ua;clear ae cR aJ bO zJ el
 go_loopw [38] (fun i wr=>∃k:Nat,k<=L.length/\i = .int .i64 k/\Hid (Qd Tryz.prog 9 clkR okS klS okC klC (0,⟨#[]⟩) wr Bt k (Jcq (L.take k)) k)/\Hid (J6 (fun k=>k=Bt) wb wr)) (fun i _=>L.length-(intOf i).toNat)
 case atStart=>exact⟨0,Nat.zero_le _,rfl,rI,Lib.hid (J6.refl _)⟩
 case round=>
  obtain⟨k,hk,rfl,lJ,sT⟩:=hrel;have iG:=sT.out.size;have y0:wr.cell? ⟨bx,0,none⟩=some (.pointer (some ⟨X,0,none⟩)):=sT.out.cell Ua q0'
  by_cases am:k<L.length
  ·have y5:wr.cell? ⟨X,5,none⟩=some (.map (some Bt)):=sT.out.cell Ua q5';have hx:L[k]?=some L[k]:=List.getElem?_eq_getElem am;have aj:L[k]∈L:=List.getElem_mem am;have aP:L.take (k+1)=L.take k ++ [L[k]]:=U6;generalize L[k]=x at hx aj aP;have jg:Ju wr L Av cv:=Jp6 yC.out sT.out (fun j h1 h2 h3=>Ua);obtain⟨b,off,rfl,bG,⟨d0,d1,d2,d3⟩⟩:=jg.get hx;have dT:=HVF.out x aj;have fE:okS x.name:=by unfold okS;have:=dT.name;unfold maxLen;omega
   have pZ:okC (x.ck,x.cn):=⟨by unfold I64;have:=dT.ck;omega,by have:=dT.cn;unfold maxLen;dsimp only;omega⟩;have HNW:=Lib.hid (Jid HNV.out hx);have eZ:=Lib.hid aP;clear hx aj aP jg dT q0' q5'
   go_wp2_with fail
   refine Jo fun V1 dq=>?_;have ac:Below wr.heap.size wr V1:=Dv;have af:wr.heap.size+1=V1.heap.size:=by rw [dq];simp
   have x0:V1.cell? ⟨wr.heap.size,0,none⟩=some (.string x.name):=Vd;have x2:V1.cell? ⟨wr.heap.size,2,none⟩=some (.int .i64 x.ck):=Vd;have x3:V1.cell? ⟨wr.heap.size,3,none⟩=some (.string x.cn):=Vd;have v0:=Ja ac y0;have v5:=Ja ac y5;obtain⟨u0,st,o0,o1,o2,h0,ro,lK,lp,iy⟩:=Qd.steps (Jc2 Tryz.underlying9) (string_law Tryz.underlying9) Jgn Tryz.underlying69 (fun u=>Jdv u) (lJ.out.bel ac) fE Ua (v:=(x.ck,x.cn)) pZ;unfold kvC at lp;dsimp only at lp;have a1:=lp V1.drew h0;have mL:=Lib.hid iy;clear ro lK lp h0 iy dq d0 d1 d2 d3 y0 y5
   go_region
   refine Zc fun W2 gi=>?_;have k1:W2.heap[Bt]?=some o2:=by rw [gi];exact Xc _ _ _ (by show Bt<V1.heap.size;omega)
   have aG:V1.grownBy W2 (some Bt):=by rw [gi];exact Kv (K0 (Jh (Below.refl _ _))) (Jgd V1.drew _ _)
   have iH:=Jlc x.name (L.take k) HNW.out;have r1:=mL.out W2 k1 (Jcq (L.take (k+1))) (by rw [eZ.out,Jce,if_pos rfl]) (fun y _ hy=>Di);rw [iH] at r1;have R1:=Lib.hid r1;have R2:=Lib.hid ((sT.out.trans' (J6.bel ac)).trans' (J6.grown aG fun k hk=>by injection hk with hk;exact hk.symm));clear gi k1 aG iH r1 a1
   go_wp2_with fail
   go_roundw
   case rel=>exact⟨k+1,Ua,Up,R1,R2⟩
   case measure=>simp [intOf];omega
  ·obtain rfl:k=L.length:=Ua;obtain⟨Wa,rfl⟩:∃Wa,Wa=wr:=⟨wr,rfl⟩;have gJ:=lJ.out;rw [List.take_length] at gJ;have HT1:=Lib.hid gJ;clear gJ lJ;have gI:=@run_makeMap Tryz.prog;have yW:w.heap.size<Wa.heap.size:=Ua;have yW1:w.heap.size<Wa.heap.size+1:=Ua;have y4:Wa.cell? ⟨w.heap.size,4,none⟩=some (.slice A4 p.eqs.length c4):=sT.out.cell Ua (Ja aH r4)
   go_wp2_with fail
   refine Jo fun V0 sM=>?_;have bK:Below Wa.heap.size Wa V0:=by rw [sM];exact Jb
   have mQ:V0.heap.size=Wa.heap.size+2:=by rw [sM];simp
   have m0:V0.cell? ⟨Wa.heap.size+1,0,none⟩=some (.map (some Wa.heap.size)):=by rw [sM];go_simp
   have hmM:Q3 Tryz.prog 55 3 .i64 okC klC V0 Wa.heap.size 0 (fun _=>none) 0:=by
    have h1:=Q3.made (P:=Tryz.prog) (k:=55) (e:=3) (q:= .i64) (ok:=okC) (kl:=klC) Wa;exact h1.bel (by rw [sM];exact Jb)
   clear gI sM;generalize iQ:Wa.heap.size+1=bm at *;generalize hMM:Wa.heap.size=M at *;have sU:J6 (fun k=>k=Bt) W1 V0:=((J6.bel (S:=fun k=>k=Bt) aH).trans' sT.out).trans' (J6.bel (by rw [hMM];exact bK));have cX:Below w.heap.size w V0:=J6.below hbA sU (fun j hj he=>Ua);have v0:=sU.cell Ua q0;have v5:=sU.cell Ua q5;have v6:=sU.cell Ua q6;have v7:=sU.cell Ua q7;have fv6:V0.frozen? ⟨X,6,none⟩=false:=(World.frozen?_of_block (a:=⟨X,6,none⟩) (sU.block X Ua Ua)).trans fq6;have uS:=Lib.hid (HT1.out.keep1 (w':=V0) (bK.block Bt Ua));have HMM:=Lib.hid hmM;have zK:=Lib.hid sU;have zL:=bK;rw [<-hMM] at zL;clear hmM sU HT1 y0 y4 bK
   go_loopw [55] (fun i wr=>∃(k:Nat) (v:Value) (nM:Nat) (f:Int×ByteArray->Option Int) (c:Nat),k<=p.eqs.length/\i = .int .i64 k/\Hid (J6 (fun j=>j=X\/j=M) V0 wr)/\Hid (∀o,o≠6->wr.cell? ⟨X,o,none⟩=V0.cell? ⟨X,o,none⟩)/\Hid (wr.cell? ⟨X,6,none⟩=some v)/\Hid (wr.frozen? ⟨X,6,none⟩=false)/\
     Hid (wr.ownsRow V0.heap.size 76 4 v ((J0 (p.eqs.take k)).map (Xm L)).length (X7 ((J0 (p.eqs.take k)).map (Xm L))))/\Hid (Q3 Tryz.prog 55 3 .i64 okC klC wr M nM f c)/\nM<=120 * k/\Hid (Jdf f (Jad L (p.eqs.take k)))) (fun i _=>p.eqs.length-(intOf i).toNat)
   case atStart=>exact⟨0,_,0,_,0,Nat.zero_le _,rfl,Lib.hid (J6.refl _),Lib.hid (fun _ _=>rfl),Lib.hid v6,Lib.hid fv6,Lib.hid (World.ownsRow_nil _ _ _ _),HMM,Nat.zero_le _,Lib.hid Jw9⟩
   case round=>
    obtain⟨k,v,nM,f,c,dz,rfl,gC,wX,rJ,hf6,ao,rK,hnM,fL⟩:=hrel;have ir:=gC.out.size;have y0:wr.cell? ⟨bx,0,none⟩=some (.pointer (some ⟨X,0,none⟩)):=gC.out.cell Ua v0;have ym:wr.cell? ⟨bm,0,none⟩=some (.map (some M)):=gC.out.cell Ua m0;have y5:=(wX.out 5 Ux).trans v5;have y7:=(wX.out 7 Ux).trans v7;have dh:Below w.heap.size w wr:=J6.below cX gC.out (fun j hj he=>Ua)
    by_cases dO:k<p.eqs.length
    ·have hx:p.eqs[k]?=some p.eqs[k]:=List.getElem?_eq_getElem dO;have aj:p.eqs[k]∈p.eqs:=List.getElem_mem dO;have aP:p.eqs.take (k+1)=p.eqs.take k ++ [p.eqs[k]]:=Gg;generalize p.eqs[k]=q at hx aj aP;have cM:=cC.out.eqs q aj;have aN:=cC.out.clock aj;rw [qR] at aN;have rL:=kc.out q aj;obtain⟨b,off,B1,k1,B2,k2,rfl,bG,⟨g0,g1,g2,g3,g4,g5,g6,g7,g8,g9,sf,se⟩⟩:=qO.out.get hx;have dZ:b<wr.heap.size:=Ua;have d0:=Ja dh g0;have d1:=Ja dh g1;have d2:=Ja dh g2;have d3:=Ja dh g3;have d4:=Ja dh g4;have d5:=Ja dh g5;have d6:=Ja dh g6;have d7:=Ja dh g7;have d8:=Ja dh g8;have d9:=Ja dh g9;have dw:okS q.name:=Mn;have ik:=Jiv q.name L;have ga:=Jr2 M w Ua q.e rL.2.2.2 cM.formed B2 k2 (J9 L q.name) se ⟨by unfold I64;have:=aN.2;omega,by have:=aN.1;unfold maxLen;omega⟩;have cU:=fun W (hb:Below w.heap.size w W)=>Jnz q.first B1 k1 W (sf.later hb) cM.first;have iU:Jad L (p.eqs.take (k+1))=q.e.arrs (Jad L (p.eqs.take k)) (J9 L q.name):=by rw [aP];unfold Jad;rw [List.foldl_append];rfl
     have kY:(J0 (p.eqs.take (k+1))).map (Xm L)=(J0 (p.eqs.take k)).map (Xm L) ++ (if (q.delay != 0)=true then [Xm L q] else []):=by
      exact Ucn
     have hcql:((J0 (p.eqs.take k)).map (Xm L)).length<=k:=by
      rw [List.length_map];have:=Ja4 (p.eqs.take k);rw [List.length_take] at this;exact Ua
     have mp:Xm L q=⟨q.name,(J9 L q.name).1,(J9 L q.name).2,Jai q.first⟩:=rfl;rw [show L.foldl (fun c v=>if q.name.data=v.name.data then(v.ck,v.cn) else c) (0,⟨#[]⟩)=J9 L q.name from rfl] at ik;generalize J9 L q.name=CK at aN ga ik iU mp;obtain⟨ck,cs⟩:=CK;dsimp only at aN ga iU mp;have gD:=Lib.hid iU;have gE:=Lib.hid kY;have rM:=Lib.hid mp;unfold exV at ga cU;unfold kvC at ga;dsimp only at ga;have iS:=Lib.hid ga;have uT:=Lib.hid cU;clear hx aj aP iU kY mp g0 g1 g2 g3 g4 g5 g6 g7 g8 g9 ga cU sf se aN
     go_wp2_with fail
     refine Jo fun V1 dq=>?_;have ac:Below wr.heap.size wr V1:=Dv;have af:wr.heap.size+1=V1.heap.size:=by rw [dq];simp
     have z0:V1.cell? ⟨wr.heap.size,0,none⟩=some (.string q.name):=Vd;have z1:V1.cell? ⟨wr.heap.size,1,none⟩=some (.int .i64 q.delay):=Vd;have z2:V1.cell? ⟨wr.heap.size,2,none⟩=some (.int .i64 q.first.kind):=Vd;have z3:V1.cell? ⟨wr.heap.size,3,none⟩=some (.int .i32 q.first.n):=Vd;have z4:V1.cell? ⟨wr.heap.size,4,none⟩=some (.string q.first.name):=Vd;have z5:V1.cell? ⟨wr.heap.size,5,none⟩=some (.slice B1 q.first.sub.length k1):=Vd;have z6:V1.cell? ⟨wr.heap.size,6,none⟩=some (.int .i64 q.e.kind):=Vd;have z7:V1.cell? ⟨wr.heap.size,7,none⟩=some (.int .i32 q.e.n):=Vd;have z8:V1.cell? ⟨wr.heap.size,8,none⟩=some (.string q.e.name):=Vd;have z9:V1.cell? ⟨wr.heap.size,9,none⟩=some (.slice B2 q.e.sub.length k2):=Vd;have zm:=Ja ac ym;have zx:=Ja ac y0;have zX5:=Ja ac y5;have zX7:=Ja ac y7;have zX6:=Ja ac rJ.out;have zf6:=((Jf ac) X 6 Ua).trans hf6.out;have hkQ:J6 (fun j=>j=X\/j=M) V0 V1:=gC.out.trans' (J6.bel ac);have zM:Qd Tryz.prog 9 clkR okS klS okC klC (0,⟨#[]⟩) V1 Bt L.length (Jcq L) L.length:=uS.out.keep1 (hkQ.block Bt Ua Ua);have zN:Q3 Tryz.prog 55 3 .i64 okC klC V1 M nM f c:=rK.out.bel ac;have qa:=Jy ao.out ac;have iR:Below w.heap.size w V1:=Jd dh ac
     have hS:∀w',J6 (fun j=>M<=j/\j≠bm/\j≠wr.heap.size) V1 w'->w'.cell? ⟨bm,0,none⟩=some (.map (some M))/\w'.cell? ⟨bx,0,none⟩=some (.pointer (some ⟨X,0,none⟩))/\w'.cell? ⟨X,5,none⟩=some (.map (some Bt))/\w'.cell? ⟨wr.heap.size,0,none⟩=some (.string q.name)/\w'.cell? ⟨wr.heap.size,1,none⟩=some (.int .i64 q.delay)/\w'.cell? ⟨wr.heap.size,2,none⟩=some (.int .i64 q.first.kind)/\w'.cell? ⟨wr.heap.size,3,none⟩=some (.int .i32 q.first.n)/\w'.cell? ⟨wr.heap.size,4,none⟩=some (.string q.first.name)/\w'.cell? ⟨wr.heap.size,5,none⟩=some (.slice B1 q.first.sub.length k1)/\w'.cell? ⟨wr.heap.size,6,none⟩=some (.int .i64 q.e.kind)/\w'.cell? ⟨wr.heap.size,7,none⟩=some (.int .i32 q.e.n)/\w'.cell? ⟨wr.heap.size,8,none⟩=some (.string q.e.name)/\w'.cell? ⟨wr.heap.size,9,none⟩=some (.slice B2 q.e.sub.length k2)/\(Instr.lookup 69 (.map (some Bt)) (.string q.name) false).run Tryz.prog w' = .ok (.agg #[.int .i64 ck,.string cs]) w':=fun w' hk=>
      ⟨hk.cell Ua zm,hk.cell Ua zx,hk.cell Ua zX5,hk.cell Ua z0,hk.cell Ua z1,hk.cell Ua z2,hk.cell Ua z3,hk.cell Ua z4,hk.cell Ua z5,hk.cell Ua z6,hk.cell Ua z7,hk.cell Ua z8,hk.cell Ua z9,
       Ji1 (Jc2 Tryz.underlying9) Jgn Tryz.underlying69 (Jdv w') ⟨Vs,Ux⟩ (x:= .string q.name) rfl (zM.keep1 (hk.block Bt Ua Ua)) dw ik⟩
     have HS:=Lib.hid hS;have zO:=Lib.hid zN;clear dq hS zM zN d0 d1 d2 d3 d4 d5 d6 d7 d8 d9 y0 ym y5 y7 rK
     go_region_held3 (fun w'=>w'.cell? ⟨bm,0,none⟩=some (.map (some M))/\w'.cell? ⟨bx,0,none⟩=some (.pointer (some ⟨X,0,none⟩))/\w'.cell? ⟨X,5,none⟩=some (.map (some Bt))/\w'.cell? ⟨wr.heap.size,0,none⟩=some (.string q.name)/\w'.cell? ⟨wr.heap.size,1,none⟩=some (.int .i64 q.delay)/\w'.cell? ⟨wr.heap.size,2,none⟩=some (.int .i64 q.first.kind)/\w'.cell? ⟨wr.heap.size,3,none⟩=some (.int .i32 q.first.n)/\w'.cell? ⟨wr.heap.size,4,none⟩=some (.string q.first.name)/\w'.cell? ⟨wr.heap.size,5,none⟩=some (.slice B1 q.first.sub.length k1)/\w'.cell? ⟨wr.heap.size,6,none⟩=some (.int .i64 q.e.kind)/\w'.cell? ⟨wr.heap.size,7,none⟩=some (.int .i32 q.e.n)/\w'.cell? ⟨wr.heap.size,8,none⟩=some (.string q.e.name)/\w'.cell? ⟨wr.heap.size,9,none⟩=some (.slice B2 q.e.sub.length k2)/\(Instr.lookup 69 (.map (some Bt)) (.string q.name) false).run Tryz.prog w' = .ok (.agg #[.int .i64 ck,.string cs]) w')
      (first|exact HS.out _ (J6.bel (Jh (Below.refl _ _)))|exact HS.out _ uU)
      (first|(go_at_call 72;refine(iS.out V1.drew nM f c (Jad L (p.eqs.take k)) (Jh iR) zO.out.drew fL.out Sq).mono ?_;rintro r w2 ⟨rfl,⟨n2',f2',c2',cI,eu,sV⟩,aG⟩;have uU:J6 (fun j=>M<=j/\j≠bm/\j≠wr.heap.size) V1 w2:=(J6.bel (Jh (Below.refl _ _))).trans' (J6.grown aG (fun j hj=>by injection hj with hj;omega))))
     have qX:J6 (fun j=>j=M) V1 w2:=(J6.bel (Jh (Below.refl _ _))).trans' (J6.grown aG (fun j hj=>by injection hj with hj;exact hj.symm));have qb:=qX.size;obtain⟨em,ex,eX5,e0,e1,e2,e3,e4,e5,e6,e7,e8,e9,elk⟩:=HS.out w2 uU;have eX6:=qX.cell Ua zX6;have ef6:w2.frozen? ⟨X,6,none⟩=false:=(World.frozen?_of_block (a:=⟨X,6,none⟩) (qX.block X Ua Ua)).trans zf6;have aE:=qX.own (fun b hb he=>by have:=(qa.lt b hb).1;omega) qa;have qc:=Lib.hid aE;have kj:=Lib.hid cI;have rI:=Lib.hid sV;have HKM:=Lib.hid qX;clear cI sV aG qX uU qa aE zm zx zX5 zX6 zX7 z0 z1 z2 z3 z4 z5 z6 z7 z8 z9 zf6 zO;have hkW:J6 (fun j=>j=X\/j=M) V0 w2:=hkQ.trans HKM.out fun j _ hj=> .inr hj;have hXW:∀o,o≠6->w2.cell? ⟨X,o,none⟩=V0.cell? ⟨X,o,none⟩:=fun o ho=>(World.cell?_of_block (HKM.out.block X Ua Ua)).trans ((ac.cell (p:=⟨X,o,none⟩) (by show X<wr.heap.size;omega)).trans (wX.out o ho));have HKW:=Lib.hid hkW;have HXW:=Lib.hid hXW;have hN2:n2'<=120 * (k+1):=Sq;clear hkQ hXW hkW wX HKM iS gC;generalize (J0 (p.eqs.take k)).map (Xm L)=csl at *
     cases tq:(q.delay != 0)
     ·go_wp2_with fail
      go_roundw
      case rel=>exact⟨k+1,v,n2',f2',c2',Ua,Up,HKW,HXW,Lib.hid eX6,Lib.hid ef6,Lib.hid (by rw [gE.out,tq];simpa using qc.out),kj,hN2,Lib.hid (by rw [gD.out];exact rI.out)⟩
      case measure=>simp [intOf];omega
     ·have zP:Qd Tryz.prog 9 clkR okS klS okC klC (0,⟨#[]⟩) w2 Bt L.length (Jcq L) L.length:=uS.out.keep1 (HKW.out.block Bt Ua Ua);obtain⟨Ac,cc,rfl,oS,nx⟩:=Jv qc.out
      have dk:∀w',J6 (fun j=>V0.heap.size<=j/\j≠wr.heap.size) w2 w'->w'.cell? ⟨bm,0,none⟩=some (.map (some M))/\w'.cell? ⟨bx,0,none⟩=some (.pointer (some ⟨X,0,none⟩))/\w'.cell? ⟨X,5,none⟩=some (.map (some Bt))/\w'.cell? ⟨wr.heap.size,0,none⟩=some (.string q.name)/\w'.cell? ⟨wr.heap.size,1,none⟩=some (.int .i64 q.delay)/\w'.cell? ⟨wr.heap.size,2,none⟩=some (.int .i64 q.first.kind)/\w'.cell? ⟨wr.heap.size,3,none⟩=some (.int .i32 q.first.n)/\w'.cell? ⟨wr.heap.size,4,none⟩=some (.string q.first.name)/\w'.cell? ⟨wr.heap.size,5,none⟩=some (.slice B1 q.first.sub.length k1)/\w'.cell? ⟨wr.heap.size,6,none⟩=some (.int .i64 q.e.kind)/\w'.cell? ⟨wr.heap.size,7,none⟩=some (.int .i32 q.e.n)/\w'.cell? ⟨wr.heap.size,8,none⟩=some (.string q.e.name)/\w'.cell? ⟨wr.heap.size,9,none⟩=some (.slice B2 q.e.sub.length k2)/\(Instr.lookup 69 (.map (some Bt)) (.string q.name) false).run Tryz.prog w' = .ok (.agg #[.int .i64 ck,.string cs]) w'/\w'.cell? ⟨X,6,none⟩=some (.slice Ac csl.length cc):=fun w' hk=>
       ⟨hk.cell Ua em,hk.cell Ua ex,hk.cell Ua eX5,hk.cell Ua e0,hk.cell Ua e1,hk.cell Ua e2,hk.cell Ua e3,hk.cell Ua e4,hk.cell Ua e5,hk.cell Ua e6,hk.cell Ua e7,hk.cell Ua e8,hk.cell Ua e9,
        Ji1 (Jc2 Tryz.underlying9) Jgn Tryz.underlying69 (Jdv w') ⟨Vs,Ux⟩ (x:= .string q.name) rfl (zP.keep1 (hk.block Bt Ua Ua)) dw ik,hk.cell Ua eX6⟩
      have iz:=Lib.hid dk;have ar:=dk w2.drew (J6.bel (Jh (Below.refl _ _)));have et:=Jua;have rN:Below w.heap.size w w2:=J6.below cX HKW.out (fun j hj he=>Ua);clear dk zP em ex eX5 e0 e1 e2 e3 e4 e5 e6 e7 e8 e9 elk HS
      go_wp2_with fail
      refine Kd (fun w'=>w'.cell? ⟨bm,0,none⟩=some (.map (some M))/\w'.cell? ⟨bx,0,none⟩=some (.pointer (some ⟨X,0,none⟩))/\w'.cell? ⟨X,5,none⟩=some (.map (some Bt))/\w'.cell? ⟨wr.heap.size,0,none⟩=some (.string q.name)/\w'.cell? ⟨wr.heap.size,1,none⟩=some (.int .i64 q.delay)/\w'.cell? ⟨wr.heap.size,2,none⟩=some (.int .i64 q.first.kind)/\w'.cell? ⟨wr.heap.size,3,none⟩=some (.int .i32 q.first.n)/\w'.cell? ⟨wr.heap.size,4,none⟩=some (.string q.first.name)/\w'.cell? ⟨wr.heap.size,5,none⟩=some (.slice B1 q.first.sub.length k1)/\w'.cell? ⟨wr.heap.size,6,none⟩=some (.int .i64 q.e.kind)/\w'.cell? ⟨wr.heap.size,7,none⟩=some (.int .i32 q.e.n)/\w'.cell? ⟨wr.heap.size,8,none⟩=some (.string q.e.name)/\w'.cell? ⟨wr.heap.size,9,none⟩=some (.slice B2 q.e.sub.length k2)/\(Instr.lookup 69 (.map (some Bt)) (.string q.name) false).run Tryz.prog w' = .ok (.agg #[.int .i64 ck,.string cs]) w'/\w'.cell? ⟨X,6,none⟩=some (.slice Ac csl.length cc)) 20 3 Ug Gd ?_;simp only [List.size_toArray,List.length_cons,List.length_nil,Nat.zero_add,Nat.reduceAdd];refine Ji 0 ar ?_;refine Ji 1 ar ?_;refine Ji 2 ar ?_;refine Ji 3 ar ?_;refine Ji 4 ar ?_;refine Ji 5 ar ?_;refine Ji 6 ar ?_;refine Ji 7 ar ?_;refine Ji 8 ar ?_;refine Ji 9 ar ?_;refine Ji 10 ar ?_;refine Ji 11 ar ?_;refine Ji 12 ar ?_;refine Ji 13 ar ?_;refine Ji 14 ar ?_;refine Ji 15 ar ?_;refine Kb 16 ?_;refine Jj fun K hK=>?_;go_simp;refine(uT.out w2.drew (Jh rN)).mono ?_;rintro r w3 ⟨rfl,aM⟩;dsimp only;have dU:J6 (fun j=>V0.heap.size<=j/\j≠wr.heap.size) w2 w3:=J6.bel (Jd (Jh (Below.refl _ _)) aM);have oC:=iz.out w3 dU;refine hK _ _ ⟨oC,?_⟩;clear hK K;refine Ji 17 oC ?_;refine Kb 18 ?_;refine Jj fun K hK=>?_;go_simp;have zQ:=iz.out (w3.alloc (.cells #[.string q.name,.int .i64 ck,.string cs,.int .i32 (Jai q.first)] 76)) (dU.trans' (J6.bel (Jc (Below.refl _ _) _)));refine hK _ _ ⟨zQ,?_⟩;clear hK K;have sW:w3.ownsRow V0.heap.size 76 4 (.slice Ac csl.length cc) csl.length (X7 csl):=Jy (Kp qc.out) aM;have lw:∀b',(Value.slice Ac csl.length cc).ownBlock=some b'->V0.heap.size<=b'/\b'<w2.heap.size:=fun b' gr=>⟨(qc.out.lt b' gr).1,(qc.out.lt b' gr).2⟩;have zR:∀b',(Value.slice Ac csl.length cc).ownBlock=some b'->b'<wr.heap.size:=fun b' gr=>(ao.out.lt b' gr).2;have fe:=dU.size;refine Kb 19 ?_;refine Ji5 (.tmp 77) (.tmp 91) 61 rfl V0.heap.size 76 _ 4 48 Tryz.underlying61 et rfl Ua (.slice Ac csl.length cc) csl.length (X7 csl) w3.heap.size 1 1 [.string q.name,.int .i64 ck,.string cs,.int .i32 (Jai q.first)] rfl (Js sW) rfl rfl (fun j u hj=>by refine(Qo (w:=w3) (c:=#[.string q.name,.int .i64 ck,.string cs,.int .i32 (Jai q.first)]) (t:=76) rfl).trans ?_;simpa using hj) Uv Ua Ua Uj ?_;intro v3 w4 cj cg hv4;obtain⟨A3',c3',rfl,hc31,hc32⟩:=Jv cj;have iA:J6 (fun j=>V0.heap.size<=j/\j≠wr.heap.size) w2 w4:=(dU.trans' (J6.bel (Jc (Below.refl _ _) _))).trans' (J6.grown cg fun j hj=>by have h1:=lw j hj;have h2:=zR j hj;omega);have zS:J6 (fun j=>V0.heap.size<=j) w2 w4:=iA.less fun j _ hj=>hj.1;have oy:=iz.out w4 iA;have k6:w4.cell? ⟨X,6,none⟩=some (.slice Ac csl.length cc):=iA.cell Ua eX6;have kf:w4.frozen? ⟨X,6,none⟩=false:=(World.frozen?_of_block (a:=⟨X,6,none⟩) (iA.block X Ua Ua)).trans ef6;refine⟨oy,Kh Ug ?_⟩
      try simp only [Act.put,sa1,sa2,sa3]
      refine Qx 20 ?_;refine Jj fun K hK=>?_;go_simp;refine hK _ _ ?_;clear hK K
      try simp only [Act.put,sa1,sa2,sa3]
      refine Qx 21 ?_;refine Jj fun K hK=>?_;go_simp;refine hK _ _ ?_;clear hK K
      try simp only [Act.put,sa1,sa2,sa3]
      refine Qx 22 ?_;refine Jj fun K hK=>?_;go_simp;refine hK _ _ ?_;clear hK K
      try simp only [Act.put,sa1,sa2,sa3]
      refine Ki Ug ?_;have nT:J6 (fun j=>j=X\/V0.heap.size<=j) w2 (w4.setCell ⟨X,6,none⟩ (.slice A3' (csl.length+1) c3')):=(zS.less fun j _ hj=> .inr hj).setCell (.inl rfl) _ _;have HK5:=Lib.hid (HKW.out.trans nT (fun j hj h=>h.elim (fun h=> .inl h) (fun h=>absurd h Ua)));have HXO5:=Lib.hid (fun(o:Nat) (ho:o≠6)=>(World.cell?_setCell_other w4 ⟨X,6,none⟩ ⟨X,o,none⟩ (.slice A3' (csl.length+1) c3') Le).trans ((World.cell?_of_block (iA.block X Ua Ua)).trans (HXW.out o ho)));have HX65:=Lib.hid (World.cell?_setCell_same w4 ⟨X,6,none⟩ (.slice A3' (csl.length+1) c3') k6);have HF65:=Lib.hid ((World.frozen?_setCell (w:=w4) (a:=⟨X,6,none⟩) (v:= .slice A3' (csl.length+1) c3') (b:=⟨X,6,none⟩)).trans kf);have sX:=Kn cj (z:=X) (fun b' gr he=>by have:=(cj.lt b' gr).1;omega) 6 (.slice A3' (csl.length+1) c3');have HOWF:=Lib.hid sX;have HMF5:=Lib.hid (kj.out.keep1 (nT.block M Ua Ua));clear ar oC zQ oy dU iA zS nT cj cg hv4 k6 kf sW lw zR sX
      go_wp2_with fail
      go_roundw
      case rel=>exact⟨k+1,_,n2',f2',c2',Ua,Up,HK5,HXO5,HX65,HF65,Lib.hid (by rw [gE.out,tq,if_pos rfl,Jdy,List.length_append,rM.out];exact HOWF.out),HMF5,hN2,Lib.hid (by rw [gD.out];exact rI.out)⟩
      case measure=>simp [intOf];omega
    ·obtain rfl:k=p.eqs.length:=Ua;obtain⟨Wb,rfl⟩:∃Wb,Wb=wr:=⟨wr,rfl⟩;have dr:=ao.out;have dk:=fL.out;rw [List.take_length] at dr dk;have e7:=(wX.out 7 Ux).trans v7;have zT:Q3 Tryz.prog 55 3 .i64 okC klC Wb F 0 (fun _=>none) 0:=(HMF1.out.keep1 (zK.out.block F Ua Ua)).keep1 (gC.out.block F Ua Ua);have jx:Jd1 Wb M F X bm bx V0.heap.size (Jad L p.eqs) ((J0 p.eqs).map (Xm L)) 0 v:=⟨ym,y0,rJ.out,e7,⟨nM,f,c,rK.out,dk⟩,⟨_,_,zT⟩,dr,hf6.out⟩;have hkB:J6 (fun j=>j=Bt\/j=X\/M<=j) wb Wb:=((sT.out.less fun j _ hj=> .inl hj).trans' (J6.bel zL)).trans (gC.out) fun j hj h=>Ua
     have rl:((J0 p.eqs).map (Xm L)).length<=24:=by
      rw [List.length_map];have:=Ja4 p.eqs;have:=cC.out.small.2.2.2;exact Ua
     have ah:Jq p=(J0 p.eqs).map (Xm L) ++ K3 (Jad L p.eqs) (X3 L):=by unfold Jq;rw [qR]
     have rk:=Lib.hid ah;have hbwB:Below w.heap.size w Wb:=J6.below cX gC.out (fun j hj he=>Ua);have u0:=(gC.out.cell Ua (zK.out.cell Ua s0));have u1:=(gC.out.cell Ua (zK.out.cell Ua s1));have u2:=(gC.out.cell Ua (zK.out.cell Ua s2));have hfB:∀o,Wb.frozen? ⟨w.heap.size+1,o,none⟩=W1.frozen? ⟨w.heap.size+1,o,none⟩:=fun o=>(World.frozen?_of_block (gC.out.block (w.heap.size+1) Ua Ua)).trans (World.frozen?_of_block (zK.out.block (w.heap.size+1) Ua Ua));have w0':=(hfB 0).trans t0;have w1':=(hfB 1).trans t1;have w2':=(hfB 2).trans t2;have gZ:∀(fn:Fn) (first cap:Array Value) (w:World),(Instr.makeFunc fn first cap).run Tryz.prog w = .ok (.func fn first cap) w:=fun _ _ _ _=>rfl;generalize (J0 p.eqs).map (Xm L)=cs0 at *;generalize Jad L p.eqs=Lm at *;have cJ:=Lib.hid jx;have HKB:=Lib.hid hkB;clear dr dk jx hkB zT ah y0 ym y5 y7 rJ hf6 fL rK ao wX gC dh s0 s1 s2 t0 t1 t2 v0 v5 v6 v7 fv6 m0 uS hfB e7
     go_wp2_with (first|(go_at_call 74;go_loud (refine(Jhd M F X bm bx V0.heap.size Ua Ua Ua Ua Ua Ua Ua Ua Ua Ua Ua Ua Lm 0 ⟨#[]⟩ cs0 0 v Wb Ua cJ.out ⟨Vs,Db⟩ Ua Ua).mono ?_;rintro r Wc ⟨rfl,⟨vc,uV,mW⟩,pM⟩)))
     have hcz:(if inC Lm (0,⟨#[]⟩)=true then cs0 ++ [Jb6 (0,⟨#[]⟩)] else cs0)=cs0 ++ K3 Lm (X3 (L.take 0)):=by
      rw [show X3 (L.take 0) = [] ++ [(0,⟨#[]⟩)] from rfl,Jc1]
      split
      ·exact Gd
      ·simp [K3]
     rw [hcz] at uV;have hvB:∀j,some j=v.ownBlock->V0.heap.size<=j:=fun j hj=>(cJ.out.own.lt j hj.symm).1
     have uW:J6 (fun j=>j=F\/j=X\/V0.heap.size<=j) Wb Wc:=pM.less fun j _ hj=>by
      rcases hj with h|h|h
      ·exact .inl h
      ·exact .inr (.inl h)
      ·exact .inr (.inr (hvB j h))
     have HKC:=Lib.hid uW;have zU:=Lib.hid uV;have hzC:=uW.size;clear hcz hvB pM uW uV mW cJ
     go_loopw [102] (fun i wr=>∃(k n:Nat) (vk:Value),k<=L.length/\i = .int .i64 k/\n<=1+2 * k/\Hid (Jd1 wr M F X bm bx V0.heap.size Lm (cs0 ++ K3 Lm (X3 (L.take k))) n vk)/\Hid (J6 (fun j=>j=F\/j=X\/V0.heap.size<=j) Wb wr)) (fun i _=>L.length-(intOf i).toNat)
     case atStart=>exact⟨0,1,vc,Nat.zero_le _,rfl,Ua,zU,HKC⟩
     case round=>
      clear zU HKC;obtain⟨k,n,vk,dU,rfl,sR,cV,mI⟩:=hrel;have uX:=mI.out.size;have fR:=Jj0 Lm (X3 (L.take k));rw [Joj,List.length_take] at fR;have hcl3:(cs0 ++ K3 Lm (X3 (L.take k))).length<=100:=Li
      by_cases jp:k<L.length
      ·have hx:L[k]?=some L[k]:=List.getElem?_eq_getElem jp;have aj:L[k]∈L:=List.getElem_mem jp;generalize L[k]=x at hx aj;have zV:=Jnf hx;have jg:Ju wr L Av cv:=Jp6 (S:=fun j=>j=Bt\/j=X\/j=F\/M<=j) yC.out ((HKB.out.less fun j _ hj=>Ua).trans mI.out fun j _ hj=>Ua) (fun j h1 h2 h3=>Ua);obtain⟨b,off,rfl,bG,⟨d0,d1,d2,d3⟩⟩:=jg.get hx;have dT:=HVF.out x aj;have hso1:okC (1,x.name):=⟨Vs,by have:=dT.name;unfold maxLen;dsimp only;omega⟩;have hso2:okC (2,x.name):=⟨Vs,by have:=dT.name;unfold maxLen;dsimp only;omega⟩;have ae:=cV.out.own;have HAL:=Lib.hid zV;clear hx aj zV jg dT
       have hE:∀A B:List Ce,(if inC Lm (2,x.name)=true then(if inC Lm (1,x.name)=true then(cs0 ++ K3 Lm (X3 (L.take k))) ++ [Jb6 (1,x.name)] else(cs0 ++ K3 Lm (X3 (L.take k)))) ++ [Jb6 (2,x.name)] else(if inC Lm (1,x.name)=true then(cs0 ++ K3 Lm (X3 (L.take k))) ++ [Jb6 (1,x.name)] else(cs0 ++ K3 Lm (X3 (L.take k)))))=cs0 ++ K3 Lm (X3 (L.take (k+1))):=fun _ _=>by
        rw [HAL.out,Jc1,Jc1]
        cases inC Lm (1,x.name) <;> cases inC Lm (2,x.name) <;> simp
       have HE:=Lib.hid (hE [] []);clear hE;generalize cs0 ++ K3 Lm (X3 (L.take k))=ck0 at *
       go_wp2_with fail
       refine Jle fun Wx iV=>?_;have fk:Below wr.heap.size wr Wx:=by rw [iV];exact Jb
       have io:Wx.heap.size=wr.heap.size+1:=by rw [iV];simp
       have n0:Wx.cell? ⟨wr.heap.size,0,none⟩=some (.string x.name):=Ls;have uY:∀j,some j=vk.ownBlock->V0.heap.size<=j/\j<wr.heap.size:=fun j hj=>ae.lt j hj.symm;clear iV d0 d1 d2 d3;refine(Jhd M F X bm bx V0.heap.size Ua Ua Ua Ua Ua Ua Ua Ua Ua Ua Ua Ua Lm 1 x.name ck0 n vk Wx Ua (cV.out.later fk) hso1 Ua Ua).mono ?_;rintro r Wd ⟨rfl,⟨vd,uZ,zW⟩,hkd⟩;have n1':Wd.cell? ⟨wr.heap.size,0,none⟩=some (.string x.name):=hkd.cell (fun h=>by rcases h with h|h|h;exact absurd h Ua;exact absurd h Ua;have:=uY _ h;omega) n0;have ir:=hkd.size;have hvd2:∀j,some j=vd.ownBlock->V0.heap.size<=j:=fun j hj=>(uZ.own.lt j hj.symm).1
       have zX:J6 (fun j=>j=F\/j=X\/V0.heap.size<=j) Wb Wd:=(mI.out.trans' (J6.bel fk)).trans hkd fun j _ hj=>by
        rcases hj with h|h|h
        ·exact .inl h
        ·exact .inr (.inl h)
        ·exact .inr (.inr (uY j h).1)
       have jX:=Lib.hid uZ;have HKW1:=Lib.hid zX;clear uZ zX hkd zW ae
       go_wp2_with fail
       refine(Jhd M F X bm bx V0.heap.size Ua Ua Ua Ua Ua Ua Ua Ua Ua Ua Ua Ua Lm 2 x.name _ (n+1) vd Wd Ua jX.out hso2 Ua (by split <;> (try rw [List.length_append]) <;> (try simp only [List.length_cons,List.length_nil]) <;> omega)).mono ?_;rintro r We ⟨rfl,⟨ve,vg,hve⟩,bk⟩
       have HKW2:=Lib.hid (HKW1.out.trans bk fun j _ hj=>by
        rcases hj with h|h|h
        ·exact .inl h
        ·exact .inr (.inl h)
        ·exact .inr (.inr (hvd2 j h)))
       rw [HE.out] at vg;have nE:=Lib.hid vg;clear vg bk hve
       go_wp2_with fail
       go_roundw
       case rel=>exact⟨k+1,n+1+1,ve,Ua,Up,Ua,nE,HKW2⟩
       case measure=>simp [intOf];omega
      ·obtain rfl:k=L.length:=Ua;rw [List.take_length,<-rk.out] at cV hcl3;have rJ:=cV.out.x6;have oz:=cV.out.x;have fN:=cV.out.own;obtain⟨Ae,ce,rfl,zY,rO⟩:=Jv fN;unfold maxLen at rO;have jh:Below w.heap.size w wr:=J6.below hbwB mI.out (fun j hj he=>Ua);have u0':=mI.out.cell Ua u0;have u1':=mI.out.cell Ua u1;have u2':=mI.out.cell Ua u2;have hfE:∀o,wr.frozen? ⟨w.heap.size+1,o,none⟩=Wb.frozen? ⟨w.heap.size+1,o,none⟩:=fun o=>World.frozen?_of_block (mI.out.block (w.heap.size+1) Ua Ua);have f0':=(hfE 0).trans w0';have f1':=(hfE 1).trans w1';have f2':=(hfE 2).trans w2';have HOE:=Lib.hid (K8 fN (B':=w.heap.size) Ua);have mq:∀b,(Value.slice Ae (Jq p).length ce).ownBlock=some b->b≠w.heap.size+1:=fun b hb he=>by have:=(fN.lt b hb).1;omega
       have hSX:∀(U:World) (o:Nat) (u:Value),(U.setCell ⟨w.heap.size+1,o,none⟩ u).cell? ⟨X,6,none⟩=U.cell? ⟨X,6,none⟩:=fun U o u=>World.cell?_setCell_other _ _ _ _ Lf;have HSX:=Lib.hid hSX;clear cV mI fN u0 u1 u2 w0' w1' w2' hfE hSX
       by_cases dP:16<(Jq p).length
       ·have pU:(16:Int)<((Jq p).length:Int):=Ua
        go_wp2_with fail
        refine bodyPost_ret (v:= .tuple #[.pointer none,.agg #[.int .i64 4,.int .i64 0,.int .i64 3]]) Gt rfl ?_;unfold Jkv;rw [if_pos dP];exact⟨rfl,Mq⟩
       ·have pU:¬(16:Int)<((Jq p).length:Int):=Ua
        go_wp2_with fail
        refine bodyPost_ret (v:= .tuple #[.pointer (some ⟨X,0,none⟩),.agg #[.int .i64 0,.int .i64 0,.int .i64 0]]) Gt rfl ?_;unfold Jkv;rw [if_neg dP];exact⟨⟨X,.slice Ae (Jq p).length ce,rfl,(by rw [HSX.out,HSX.out,HSX.out];exact rJ),Kn (Kn (Kn HOE.out mq 0 _) mq 1 _) mq 2 _⟩,Mq⟩
theorem Jqc {p:Pr} (h:Ks p≠(0,0,0)):(Kf p)=([],Ks p):=by unfold Kf;rw [if_neg h]
theorem Jbh.of_own {w:World} {base:Nat} {e:TypeId} {l:List Ce} {v:Value} (h:w.ownsRow base e 4 v l.length (X7 l)):∃A cap,v = .slice A l.length cap/\Jbh w l A cap:=by
 obtain⟨A,cap,rfl,h1,h2⟩:=Jv h;refine⟨A,cap,rfl,h1,h2,Jph l,fun hm=>?_⟩;exact Uct
theorem Jsx (p:Pr) (a:PrA) (w:World) (f:Int×Int×Int) (qe:∀W,Below w.heap.size w W->Calls Tryz.prog 41 #[prV p a] W fun r w'=>r = .returned (.tuple #[.pointer none,fV f])/\Below W.heap.size W w') :
  Calls Tryz.prog 18 #[prV p a] w fun r w'=>r = .returned (.tuple #[.slice none 0 0,fV f])/\Below w.heap.size w w':=by
 obtain⟨A1,c1,A2,c2,A3,c3,A4,c4⟩:=a;obtain⟨k1,k2,k3⟩:=f;unfold prV fV at *;dsimp only at *
 go_enter Tryz.func18,Tryz.ntmps18
 go_wp2_with (first|(go_at_call 41;refine(qe _ Jb).mono ?_;rintro r wa ⟨rfl,aA⟩;have aW:=Jg aA;have bS:=Jf aA;have cN:w.heap.size+2<=wa.heap.size:=Ut;have dG:w.heap.size<wa.heap.size:=Ua;have aX:w.heap.size+1<wa.heap.size:=Ua))
 go_region
 all_goals
  go_wp2_with fail
  refine bodyPost_ret (v:= .tuple #[.slice none 0 0,.agg #[.int .i64 k1,.int .i64 k2,.int .i64 k3]]) (by simp [results,Tryz.results18,go_sem, *]) rfl ⟨rfl,?_⟩
  (repeat refine Jh ?_)
  exact Km
theorem Jrx (p:Pr) (a:PrA) (w:World) (qe:∀W,Below w.heap.size w W->Calls Tryz.prog 41 #[prV p a] W fun r w'=>(∃X v,r = .returned (.tuple #[.pointer (some ⟨X,0,none⟩),fV (0,0,0)])/\w'.cell? ⟨X,6,none⟩=some v/\w'.ownsRow W.heap.size 76 4 v (Jq p).length (X7 (Jq p)))/\Below W.heap.size W w') :
  Calls Tryz.prog 18 #[prV p a] w fun r w'=>(∃v,r = .returned (.tuple #[v,fV (0,0,0)])/\w'.ownsRow w.heap.size 76 4 v (Jq p).length (X7 (Jq p)))/\Below w.heap.size w w':=by
 obtain⟨A1,c1,A2,c2,A3,c3,A4,c4⟩:=a;unfold prV fV at *;dsimp only at *
 go_enter Tryz.func18,Tryz.ntmps18
 go_wp2_with (first|(go_at_call 41;refine(qe _ Jb).mono ?_;rintro r wa ⟨⟨X,v,rfl,rJ,ae⟩,aA⟩;obtain⟨Ac,cc,rfl,oS,nx⟩:=Jv ae;have pO:=block_lt_of_cell rJ;have aW:=Jg aA;have bS:=Jf aA;have cN:w.heap.size+2<=wa.heap.size:=Ut;have dG:w.heap.size<wa.heap.size:=Ua;have aX:w.heap.size+1<wa.heap.size:=Ua))
 refine Jo fun W0 ag=>?_;have ax:Below w.heap.size w W0:=Uo;have aQ:Below wa.heap.size wa W0:=Uo;have x6:=Ja aQ rJ;have g0:W0.cell? ⟨w.heap.size+1,0,none⟩=some (.int .i64 0):=Ja aQ Udi;have g1:W0.cell? ⟨w.heap.size+1,1,none⟩=some (.int .i64 0):=Ja aQ Udi;have g2:W0.cell? ⟨w.heap.size+1,2,none⟩=some (.int .i64 0):=Ja aQ Udi;have f0:W0.frozen? ⟨w.heap.size+1,0,none⟩=false:=(Jf aQ _ _ aX).trans ((bS _ _ Ul).trans Uq);have f1:W0.frozen? ⟨w.heap.size+1,1,none⟩=false:=(Jf aQ _ _ aX).trans ((bS _ _ Ul).trans Uq);have f2:W0.frozen? ⟨w.heap.size+1,2,none⟩=false:=(Jf aQ _ _ aX).trans ((bS _ _ Ul).trans Uq);have e0:W0.cell? ⟨wa.heap.size,0,none⟩=some (.int .i64 0):=Uc;have e1:W0.cell? ⟨wa.heap.size,1,none⟩=some (.int .i64 0):=Uc;have e2:W0.cell? ⟨wa.heap.size,2,none⟩=some (.int .i64 0):=Uc;have lw:∀b,(Value.slice Ac (Jq p).length cc).ownBlock=some b->b≠w.heap.size+1:=fun b hb he=>by have:=(ae.lt b hb).1;simp at this;omega
 have HOW:=Lib.hid (Jy (K8 ae (B':=w.heap.size) Uj) aQ);clear ag aW bS aA aQ rJ ae
 go_region
 all_goals
  go_wp2_with fail
  refine bodyPost_ret (v:= .tuple #[.slice Ac (Jq p).length cc,.agg #[.int .i64 0,.int .i64 0,.int .i64 0]]) (by simp [results,Tryz.results18,go_sem, *]) rfl ?_;refine⟨⟨_,rfl,Kn (Kn (Kn HOW.out lw 0 _) lw 1 _) lw 2 _⟩,?_⟩
  (repeat refine Jh ?_)
  exact Km
theorem Jyg (p:Pr) (a:PrA) (w:World) (hg:Ql w) (hp:Kr w p a) (aw:Q4 p) (n1:p.ins.length<=1000000) (n2:p.outs.length<=1000000) (n3:p.locals.length<=1000000) (n4:p.eqs.length<=1000000) (hf:(Kf p).2≠(0,0,0)) :
  Calls Tryz.prog 41 #[prV p a] w fun r w'=>r = .returned (.tuple #[.pointer none,fV (Kf p).2])/\Below w.heap.size w w':=by
 by_cases hS:Ks p=(0,0,0)
 ·have dP:16<(Jq p).length:=by
   by_cases hb:16<(Jq p).length
   ·exact hb
   ·exact absurd (by unfold Kf;rw [if_pos hS,if_neg hb]) hf
  refine(Jla p a w hg hp aw n1 n2 n3 n4 hS).mono fun r w' h=>?_;unfold Jkv at h;rw [if_pos dP] at h;rw [show(Kf p).2=(4,0,3) by unfold Kf;rw [if_pos hS,if_pos dP]];exact h
 ·rw [Jqc hS];exact Jta p a w hg hp aw n1 n2 n3 n4 hS
theorem Jwb (p:Pr) (a:PrA) (w:World) (hg:Ql w) (hp:Kr w p a) (aw:Q4 p) (n1:p.ins.length<=1000000) (n2:p.outs.length<=1000000) (n3:p.locals.length<=1000000) (n4:p.eqs.length<=1000000) (hS:Ks p=(0,0,0)) (hb:¬16<(Jq p).length) :
  Calls Tryz.prog 41 #[prV p a] w fun r w'=>(∃X v,r = .returned (.tuple #[.pointer (some ⟨X,0,none⟩),fV (0,0,0)])/\w'.cell? ⟨X,6,none⟩=some v/\w'.ownsRow w.heap.size 76 4 v (Jq p).length (X7 (Jq p)))/\Below w.heap.size w w':=by
 refine(Jla p a w hg hp aw n1 n2 n3 n4 hS).mono fun r w' h=>?_;unfold Jkv at h;rw [if_neg hb] at h;exact h
theorem Je5 (p:Pr):((Kf p).2≠(0,0,0)/\(Kf p).1 = [])\/(Ks p=(0,0,0)/\¬16<(Jq p).length/\Kf p=(Jq p,(0,0,0))):=by
 unfold Kf
 split
 ·split
  ·exact .inl ⟨Ul,rfl⟩
  ·rename_i h1 h2;exact .inr ⟨h1,h2,rfl⟩
 ·rename_i h;exact .inl ⟨h,rfl⟩
theorem Jf8 (p:Pr) (a:PrA) (w:World) (hg:Ql w) (hp:Kr w p a) (aw:Q4 p) (n1:p.ins.length<=1000000) (n2:p.outs.length<=1000000) (n3:p.locals.length<=1000000) (n4:p.eqs.length<=1000000) :
  Calls Tryz.prog 18 #[prV p a] w fun r w'=>(∃v,r = .returned (.tuple #[v,fV (Kf p).2])/\w'.ownsRow w.heap.size 76 4 v (Kf p).1.length (X7 (Kf p).1))/\Below w.heap.size w w':=by
 rcases Je5 p with ⟨h1,h2⟩|⟨h1,h2,h3⟩
 ·refine(Jsx p a w _ fun W hb=>Jyg p a W (hg.later hb) (hp.later hb) aw n1 n2 n3 n4 h1).mono ?_;rintro r w' ⟨rfl,hb⟩;rw [h2];exact⟨⟨_,rfl,World.ownsRow_nil _ _ _ _⟩,hb⟩
 ·rw [h3];exact Jrx p a w fun W hb=>Jwb p a W (hg.later hb) (hp.later hb) aw n1 n2 n3 n4 h1 h2
theorem Jyk:(Tryz.prog.info? 21).map (fun i=>(i.zero,i.size,i.bytes))=some (some (.int .i32 0),1,4):=Ug
theorem Jqm (p:Pr) (a:PrA) (w:World) (hg:Ql w) (hp:Kr w p a) (aw:Q4 p) (n1:p.ins.length<=1000000) (n2:p.outs.length<=1000000) (n3:p.locals.length<=1000000) (n4:p.eqs.length<=1000000) :
  Calls Tryz.prog 34 #[prV p a] w fun r w'=>(∃v,r = .returned (.tuple #[v,fV (Kf p).2])/\w'.ownsRow w.heap.size 21 1 v (Kf p).1.length ((Kf p).1.map (fun c=> .int .i32 c.first)))/\Below w.heap.size w w':=by
 have ah:=fun W h=>Jf8 p a W (hg.later h) (hp.later h) aw n1 n2 n3 n4
 have hl:(Kf p).1.length<=16:=by
  rcases Je5 p with ⟨h1,h2⟩|⟨h1,h2,h3⟩
  ·rw [h2];simp
  ·rw [h3];dsimp only;omega
 obtain⟨A1,c1,A2,c2,A3,c3,A4,c4⟩:=a;generalize (Kf p).1=cl at *;generalize (Kf p).2=cf at *;obtain⟨k1,k2,k3⟩:=cf;unfold prV fV at *;dsimp only at *;clear hg hp aw
 go_enter Tryz.func34,Tryz.ntmps34
 go_wp2_with (first|(go_at_call 18;refine(ah _ Jb).mono ?_;rintro r wa ⟨⟨v,rfl,ae⟩,aA⟩;obtain⟨Ac,cc,rfl,oS,nx⟩:=Jv ae;have aW:=Jg aA;have bS:=Jf aA;have cN:w.heap.size+2<=wa.heap.size:=Ut;have dG:w.heap.size<wa.heap.size:=Ua;have aX:w.heap.size+1<wa.heap.size:=Ua))
 refine Jo fun W0 ag=>?_;have ax:Below w.heap.size w W0:=Uo;have aQ:Below wa.heap.size wa W0:=Uo;have bD:w.heap.size+3<=W0.heap.size:=Su;unfold maxLen at nx
 have lO:Jbh W0 cl Ac cc:=by
  obtain⟨A',cap',hv,aY⟩:=Jbh.of_own (Jy ae aQ);injection hv with e1 e2 e3;subst e1 e3;exact aY
 have g0:W0.cell? ⟨w.heap.size+1,0,none⟩=some (.int .i64 0):=Ja aQ Udi;have g1:W0.cell? ⟨w.heap.size+1,1,none⟩=some (.int .i64 0):=Ja aQ Udi;have g2:W0.cell? ⟨w.heap.size+1,2,none⟩=some (.int .i64 0):=Ja aQ Udi;have f0:W0.frozen? ⟨w.heap.size+1,0,none⟩=false:=(Jf aQ _ _ aX).trans ((bS _ _ Ul).trans Uq);have f1:W0.frozen? ⟨w.heap.size+1,1,none⟩=false:=(Jf aQ _ _ aX).trans ((bS _ _ Ul).trans Uq);have f2:W0.frozen? ⟨w.heap.size+1,2,none⟩=false:=(Jf aQ _ _ aX).trans ((bS _ _ Ul).trans Uq);have e0:W0.cell? ⟨wa.heap.size,0,none⟩=some (.int .i64 k1):=Uc;have e1:W0.cell? ⟨wa.heap.size,1,none⟩=some (.int .i64 k2):=Uc;have e2:W0.cell? ⟨wa.heap.size,2,none⟩=some (.int .i64 k3):=Uc;have uX:wa.heap.size<W0.heap.size:=La;have uQ:=Jyk;clear ag aW bS aA aQ ae ah
 go_loopw [6,16] (fun v i wr=>∃(k:Nat),k<=cl.length/\i = .int .i64 k/\Hid (wr.ownsRow W0.heap.size 21 1 v k ((cl.take k).map (fun c=> .int .i32 c.first)))/\Below W0.heap.size W0 wr) (fun _ i _=>cl.length-(intOf i).toNat)
 case atStart=>exact⟨0,Nat.zero_le _,rfl,Lib.hid (World.ownsRow_nil _ _ _ _),Below.refl _ _⟩
 case round=>
  obtain⟨k,hk,rfl,ae,ab⟩:=hrel;have bu:=ab.size
  by_cases am:k<cl.length
  ·have hx:cl[k]?=some cl[k]:=List.getElem?_eq_getElem am;have aP:cl.take (k+1)=cl.take k ++ [cl[k]]:=U6;generalize cl[k]=x at hx aP;obtain⟨b,off,rfl,cB⟩:=(lO.later ab).2.2.2 Ua;have aY:=Jdh cl k x hx;have d0:wr.cell? ⟨b,off+k * 4,none⟩=some (.string x.name):=cB _ _ aY.1;have d1:wr.cell? ⟨b,off+k * 4+1,none⟩=some (.int .i64 x.ck):=cB _ _ aY.2.1;have d2:wr.cell? ⟨b,off+k * 4+2,none⟩=some (.string x.cn):=cB _ _ aY.2.2.1;have d3:wr.cell? ⟨b,off+k * 4+3,none⟩=some (.int .i32 x.first):=cB _ _ aY.2.2.2;have eZ:=Lib.hid aP;clear hx aP cB aY
   go_wp2_with (at_builtin;go_loud (refine K2 rfl (.tmp 20) (.tmp 23) 41 rfl W0.heap.size 21 _ 1 4 Tryz.underlying41 uQ rfl Ua _ k _ _ 1 [.int .i32 x.first] rfl (Js (Js ae.out)) rfl rfl (fun j u hj=>Udt) Uv Ua Ua Uj ?_;intro v2 w2 ao aq;have sK:=Lib.hid ao;clear ao))
   go_roundw
   case rel=>exact⟨k+1,Ua,Up,Lib.hid (by rw [eZ.out,List.map_append];exact sK.out),Jb⟩
   case measure=>simp [intOf];omega
  ·obtain rfl:k=cl.length:=Ua;have ae:=ae.out;rw [List.take_length] at ae;obtain⟨Ae,ce,rfl,zY,rO⟩:=Jv ae;have g0':=Ja ab g0;have g1':=Ja ab g1;have g2':=Ja ab g2;have e0':=Ja ab e0;have e1':=Ja ab e1;have e2':=Ja ab e2;have f0':=(Jf ab _ 0 Ua).trans f0;have f1':=(Jf ab _ 1 Ua).trans f1;have f2':=(Jf ab _ 2 Ua).trans f2;have lw:∀b,(Value.slice Ae cl.length ce).ownBlock=some b->b≠w.heap.size+1:=fun b hb he=>Ft;have HOW:=Lib.hid (K8 ae (B':=w.heap.size) Ua);have aC:Below w.heap.size w wr:=Jd ax ab;clear ae
   go_wp2_with fail
   go_region
   all_goals
    go_wp2_with fail
    refine bodyPost_ret (v:= .tuple #[.slice Ae cl.length ce,.agg #[.int .i64 k1,.int .i64 k2,.int .i64 k3]]) (by simp [results,Tryz.results34,go_sem, *]) rfl ?_;refine⟨⟨_,rfl,Kn (Kn (Kn HOW.out lw 0 _) lw 1 _) lw 2 _⟩,?_⟩
    (repeat refine Jh ?_)
    exact Km
end Go.Proofs.YtknfcamdfdfoeaaGreatDoor
