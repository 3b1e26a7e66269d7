/- Lemmas. -/
import Derived.Test.YtknfcamdfdfoeaaGreatDoorMac
import Derived.Test.YtknfcamdfdfoeaaGreatDoorZ18
import Derived.Test.YtknfcamdfdfoeaaGreatDoorZ05
import Derived.Deep.RegionLaw
import Derived.Test.YtknfcamdfdfoeaaGreatDoorZ21
import Derived.Test.YtknfcamdfdfoeaaGreatDoorZ15
import Derived.Test.YtknfcamdfdfoeaaGreatDoorZ03
set_option linter.unusedVariables false
set_option linter.unusedSimpArgs false
set_option maxRecDepth 100000
set_option maxHeartbeats 64000000
namespace Go.Proofs.YtknfcamdfdfoeaaGreatDoor
open Go.RowKit Go.Sort Go.Maps Go.ChangeMaps Go.WideMaps
theorem Jnz (e:Ex) (A:Option Addr) (cap:Nat) (w:World) (he:Jt w e A cap) (hl:e.kind=4->∃x r,e.sub=x :: r) :
  Calls Tryz.prog 73 #[exV e A cap] w fun r w'=>r = .returned (.int .i32 (Jai e))/\Below w.heap.size w w':=by
 have ai:=he.len;unfold maxLen at ai;obtain⟨bI,aD⟩:=ai;unfold exV
 by_cases hk:e.kind=4
 ·obtain⟨x,r,hs⟩:=hl hk;have hx:e.sub[0]?=some x:=by rw [hs];rfl
  have am:0<e.sub.length:=by rw [hs];simp
  have hv:Jai e=W32 (-x.n):=by unfold Jai;rw [if_pos hk,hs]
  obtain⟨b,off,A',cap',rfl,c0,c1,c2,c3,bd⟩:=he.get hx;have tk:(e.kind == 4)=true:=Vw;simp only [Nat.zero_mul,Nat.add_zero] at c0 c1 c2 c3;have fk:b<w.heap.size:=Nu c0;unfold W32 at hv;clear hk hs hl hx;have HV:=Nf hv;clear hv
  go_enter Tryz.func73,Tryz.ntmps73
  go_wp2_with fail
  go_ret;exact⟨Jm (by rw [HV.out,IntWalk.i32_left]),Jb⟩
 ·have hv:Jai e=e.n:=by unfold Jai;rw [if_neg hk]
  have tk:(e.kind == 4)=false:=Vw;clear hk hl;have HV:=Nf hv;clear hv
  go_enter Tryz.func73,Tryz.ntmps73
  exact Uc9
def Jdf (f:Int×ByteArray->Option Int) (l:List (Int×ByteArray)):Prop:=∀c,okC c->decide (0<(f c).getD 0)=inC l c
theorem Jw9:Jdf (fun _=>none) []:=fun c _=>by unfold inC;simp
def Jkb (f:Int×ByteArray->Option Int) (c:Int×ByteArray) (i:Int):Int×ByteArray->Option Int:=fun d=>if K9 c.1 c.2 d.1 d.2=true then some i else f d
theorem Jmm (f:Int×ByteArray->Option Int) (c:Int×ByteArray) (i:Int):Jkb f c i c=some i:=if_pos (Jvf c)
theorem Jkt (f:Int×ByteArray->Option Int) (c:Int×ByteArray) (i:Int) (d:Int×ByteArray) (h:d≠c):Jkb f c i d=f d:=if_neg fun e=>h (Jyj e).symm
theorem Jug {f:Int×ByteArray->Option Int} {l:List (Int×ByteArray)} (h:Jdf f l) (c:Int×ByteArray):Jdf (Jkb f c 1) (l ++ [c]):=fun d hd=>by
 rw [Jwh,<-h d hd];unfold Jkb
 cases hc:K9 c.1 c.2 d.1 d.2
 ·rw [if_neg Ul,Bool.or_false]
 ·rw [if_pos rfl,Bool.or_true];rfl
theorem Jxy (w:World):(zeroValue 3).run Tryz.prog w = .ok (.int .i64 0) w:=Kj w
def Jzo (M:Nat) (w0:World) (x:Ex):Prop:=∀(A:Option Addr) (cap:Nat) (c:Int×ByteArray),Jt w0 x A cap->okC c->∀(W:World) (n:Nat) (f:Int×ByteArray->Option Int) (cnt:Nat) (l:List (Int×ByteArray)),Below w0.heap.size w0 W->Q3 Tryz.prog 55 3 .i64 okC klC W M n f cnt->Jdf f l->n+x.size<=900000000->
  Calls Tryz.prog 72 #[.map (some M),exV x A cap,kvC c] W fun r w'=>r = .returned (.tuple #[])/\(∃n' f' cnt',Q3 Tryz.prog 55 3 .i64 okC klC w' M n' f' cnt'/\n'<=n+x.size/\Jdf f' (x.arrs l c))/\W.grownBy w' (some M)
theorem Jqs {k:Int} {s:ByteArray} {c:Int×ByteArray} {i:Nat} (h8:k≠8) (h9:k≠9) (bM:k≠10):K4 k s c i=c:=by unfold K4;rw [if_neg bM,if_neg Ua]
theorem Jtk {k:Int} {s:ByteArray} {c:Int×ByteArray} {i:Nat} (h:k=8\/k=9):K4 k s c i=(0,⟨#[]⟩):=by unfold K4;rw [if_neg Ua,if_pos h]
theorem Jjr {s:ByteArray} {c:Int×ByteArray} {i:Nat} : K4 10 s c i=(1+(i:Int),s):=by unfold K4;rw [if_pos rfl]
theorem Jr2 (M:Nat) (w0:World) (hM:w0.heap.size<=M) (e:Ex):e.OK->e.formed=true->Jzo M w0 e:=by
 induction e using Ex.ind with
 | h e ih0=>
 intro aw cO Ae ce c he hc W n f cnt l dZ kg fL hn;have ih:∀x∈e.sub,Jzo M w0 x:=fun x hx=>ih0 x hx (Ex.OK_sub aw hx) (Q9 cO x hx);have fE:e.name.size<=maxLen:=by cases e;exact aw.2.2.1
 have hmz:=fun h=>Jfj cO h;have hMW:=kg.lt;have ai:=he.len;unfold maxLen at ai;obtain⟨bI,aD⟩:=ai;have cE:=Ex.size_eq e;have ga:=Ex.arrs_eq l e c;obtain⟨ck,cs⟩:=c;clear ih0 aw cO;have HN:=Nf kg;clear kg;have pV:=Nf fL;clear fL;have iS:=Nf ga;clear ga;have cP:=@Jl0;unfold exV kvC at *;dsimp only at *;obtain⟨R,hR⟩:∃R,R=e.arrs l (ck,cs):=⟨_,rfl⟩;rw [<-hR]
 by_cases bM:e.kind=10
 ·have tk7:(e.kind == 7)=false:=Sp;have tk8:(e.kind == 8)=false:=Sp;have tk9:(e.kind == 9)=false:=Sp;have tk10:(e.kind == 10)=true:=Sp;have h2:=hmz bM
  obtain⟨x,y,aT⟩:∃x y,e.sub = [x,y]:=by
   match hs:e.sub with
   | [x,y]=>exact⟨x,y,rfl⟩
   | []=>rw [hs] at h2;simp at h2
   | [_]=>rw [hs] at h2;simp at h2
   | _ :: _ :: _ :: _=>rw [hs] at h2;simp at h2
  have hA:=hR.trans iS.out;rw [if_neg Ua,aT,bM,Ex.arrsL,Ex.arrsL,Ex.arrsL,Jjr,Jjr] at hA;have hx:e.sub[0]?=some x:=Ff;have hy:e.sub[1]?=some y:=Ff;have ihx:=ih x (by rw [aT];simp);have ihy:=ih y (by rw [aT];simp);rw [aT] at cE;simp only [Ex.sizeL] at cE;have HW:=Nf (he.later dZ);obtain⟨b,off,A1,k1,rfl,x0,x1,x2,x3,bC⟩:=(he.later dZ).get hx;obtain⟨b',off',A2,k2,pW,y0,y1,y2,y3,bd⟩:=(he.later dZ).get hy;injection pW with pW;injection pW with e1 e2;subst e1 e2;simp only [Nat.zero_mul,Nat.add_zero] at x0 x1 x2 x3;simp only [Nat.one_mul] at y0 y1 y2 y3;have ax:=(he.get hx);obtain⟨b',off',A1',k1',pW,z0,z1,z2,z3,hs1'⟩:=ax;injection pW with pW;injection pW with e1 e2;subst e1 e2;simp only [Nat.zero_mul,Nat.add_zero] at z0 z1 z2 z3;have cD:=Ja dZ z3;rw [x3] at cD;injection cD with cD;injection cD with e1 e2 e3;subst e1 e3;obtain⟨b',off',A2',k2',pW,z0',z1',z2',z3',hs2'⟩:=he.get hy;injection pW with pW;injection pW with e1 e2;subst e1 e2;have dz:=Ja dZ z3';rw [y3] at dz;injection dz with dz;injection dz with e1 e2 e3;subst e1 e3;have ln:okC (1+((0:Nat):Int),e.name):=⟨Vs,fE⟩;have jm:okC (1+((0+1:Nat):Int),e.name):=⟨Vs,fE⟩;have ak:=fun W' (gr:Below W.heap.size W W')=>ihx _ _ (1+((0:Nat):Int),e.name) hs1' ln W' n f cnt l (dZ.trans (gr.mono dZ.size)) (HN.out.bel gr) pV.out Ua;have dm:=fun W' n' f' cnt' (gr:Below w0.heap.size w0 W') (yp:Q3 Tryz.prog 55 3 .i64 okC klC W' M n' f' cnt') (xt:Jdf f' (x.arrs l (1+((0:Nat):Int),e.name))) (wg:n'+y.size<=900000000)=>ihy _ _ (1+((0+1:Nat):Int),e.name) hs2' jm W' n' f' cnt' _ gr yp xt wg;have dO:e.sub.length=2:=Ff;rw [dO];unfold exV kvC at ak dm;dsimp only at ak dm;simp only [Nat.zero_add] at ak dm hA;rw [show(1:Int)+((0:Nat):Int)=1 from rfl] at ak dm hA;rw [show(1:Int)+((1:Nat):Int)=2 from rfl] at dm hA;have HA:=Nf hA;have fk:b<W.heap.size:=Nu x0;have hbM:b≠M:=by have hh:b<w0.heap.size:=Nu z0;omega
  clear hA hR iS bM aT hx hy ih ihx ihy z0 z1 z2 z3 z0' z1' z2' z3' ln jm bC bd hmz bI aD
  go_enter Tryz.func72,Tryz.ntmps72
  go_wp2_with fail
  go_region_law (first|(go_simp;go_wp2_with (go_at_call 72;go_loud (refine(ak _ Jb).mono ?_;rintro r w3 ⟨rfl,⟨n3,f3,cnt3,kV,sR,iT⟩,bJ⟩))))
  all_goals
   have fe:=bJ.size;simp at fe;have ft:∀k o u,k<W.heap.size+2->k≠M->(((W.alloc (.cells #[.int .i64 e.kind,.int .i32 e.n,.string e.name,.slice (some ⟨b,off,none⟩) 2 ce] 51)).alloc (.cells #[.int .i64 ck,.string cs] 55))).cell? ⟨k,o,none⟩=some u->w3.cell? ⟨k,o,none⟩=some u:=fun k o u hk aS hu=>Jr (bJ.block k Uj Se) hu;have p2:=ft W.heap.size 2 (.string e.name) Ua Ua Uq;have p3:=ft W.heap.size 3 (.slice (some ⟨b,off,none⟩) 2 ce) Ua Ua Uq;have v0:=ft b _ _ Ua hbM (J4 (J4 y0));have v1:=ft b _ _ Ua hbM (J4 (J4 y1));have v2:=ft b _ _ Ua hbM (J4 (J4 y2));have v3:=ft b _ _ Ua hbM (J4 (J4 y3));have rG:W.grownBy w3 (some M):=Kv (K0 (Jh (Jc (Jc (Nt) _) _))) bJ;have rH:=Nd w0 w3 (J2 dZ rG (fun k hk=>by injection hk with hk;omega) dZ.size);have hm3':∀W',Below w3.heap.size w3 W'->Q3 Tryz.prog 55 3 .i64 okC klC W' M n3 f3 cnt3:=fun W' h=>kV.bel h;have eG:1<2:=Ua;have h12':(1:Int)<((2:Nat):Int):=Ua;clear ft bJ kV x0 x1 x2 x3 y0 y1 y2 y3 ak HN pV
   go_wp2_with fail
   go_region_law (first|(go_simp;go_wp2_with (go_at_call 72;go_loud (refine(dm _ n3 f3 cnt3 (Jn rH (B:=w3.heap.size) Jb rH.size) (hm3' _ Jb) iT Ua).mono ?_;rintro r w4 ⟨rfl,⟨n4,f4,cnt4,sS,hn4,zB⟩,cg⟩))))
   all_goals
    have hg4':w3.grownBy w4 (some M):=Kv (K0 (Jh (Nt))) cg
    go_wp2_with fail
    refine Nv (results_none Ug _ _ _) rfl ?_;exact⟨rfl,⟨n4,f4,cnt4,sS,Ua,by rw [HA.out];exact zB⟩,Kv rG hg4'⟩
 have tk10:(e.kind == 10)=false:=Fb
 by_cases zC:e.kind=8\/e.kind=9
 ·have tk7:(e.kind == 7)=false:=Uj;have hA:=hR.trans iS.out;rw [if_neg Ua] at hA;have HA:=Nf hA;have lD:∀i,K4 e.kind e.name (ck,cs) i=(0,⟨#[]⟩):=fun i=>Jtk zC;have lq:okC (0,⟨#[]⟩):=⟨Vs,Db⟩;have h7:e.kind≠7:=Ua;clear hA iS bM h7 hR
  have hk8:((e.kind == 8)=true/\(e.kind == 9)=false)\/((e.kind == 8)=false/\(e.kind == 9)=true):=by
   rcases zC with h|h
   ·left;rw [h];exact⟨rfl,rfl⟩
   ·right;rw [h];exact⟨rfl,rfl⟩
  clear zC
  rcases hk8 with ⟨tk8,tk9⟩|⟨tk8,tk9⟩
  all_goals
   go_enter Tryz.func72,Tryz.ntmps72
   go_wp2_with fail
   refine Jo fun W1 bt=>?_;have iw:Q3 Tryz.prog 55 3 .i64 okC klC W1 M n f cnt:=by rw [bt];exact HN.out.bel Jlo
   have ic:Jdf f l:=pV.out;have eR:n<=n+1:=Ua;have ez:W.grownBy W1 (some M):=by rw [bt];exact K0 Jlo
   have d0:=Na W1 (W.heap.size+1) 0 0 Lj;have d1:=Nb W1 (W.heap.size+1) 1 (.string ⟨#[]⟩) Lj;have af:W.heap.size+2<=W1.heap.size:=by rw [bt];simp
   clear bt;have uO:=Nf iw;have kW:=Nf ic;have kX:=Nf ez;clear iw ic ez
   go_loopw [41] (fun i wr=>∃(k n2 cnt2:Nat) (f2:Int×ByteArray->Option Int) (l2:List (Int×ByteArray)),k<=e.sub.length/\i = .int .i64 k/\Hid (Q3 Tryz.prog 55 3 .i64 okC klC wr M n2 f2 cnt2)/\Hid (Jdf f2 l2)/\Hid (R=Ex.arrsL l2 e.kind e.name (ck,cs) k (e.sub.drop k))/\n2+Ex.sizeL (e.sub.drop k)<=n+e.size/\Hid (W1.grownBy wr (some M))) (fun i _=>e.sub.length-(intOf i).toNat)
   case atStart=>exact⟨0,n,cnt,f,l,Np,rfl,uO,kW,Sb,Vm,Nf (K0 (Nt))⟩
   case round=>
    obtain⟨k,n2,cnt2,f2,l2,hk,rfl,pX,gI,aa,qW,bB⟩:=hrel;have bu:=bB.out.size;have bV:=ltA W 1 wr;have gB:=Nd w0 W1 (J2 dZ kX.out (fun b hb=>U1) dZ.size);have aC:=Nd w0 wr (J2 gB bB.out (fun b hb=>U1) gB.size);have d0':=Jr (a:=⟨W.heap.size+1,0,none⟩) (bB.out.block (W.heap.size+1) Ua Uj) d0;have d1':=Jr (a:=⟨W.heap.size+1,1,none⟩) (bB.out.block (W.heap.size+1) Ua Uj) d1
    by_cases am:k<e.sub.length
    ·have hx:e.sub[k]?=some e.sub[k]:=Ng am;have aj:e.sub[k]∈e.sub:=Nj am;have hd:e.sub.drop k=e.sub[k] :: e.sub.drop (k+1):=No am;generalize e.sub[k]=x at hx aj hd;obtain⟨b,off,A',cap',rfl,c0,c1,c2,c3,hs⟩:=he.get hx;have c0':=Ja aC c0;have c1':=Ja aC c1;have c2':=Ja aC c2;have c3':=Ja aC c3;have hr:=aa.out;rw [hd,Ex.arrsL,lD] at hr;rw [hd,Ex.sizeL] at qW;have az:=fun W' (gr:Below wr.heap.size wr W')=>ih x aj A' cap' (0,⟨#[]⟩) hs lq W' n2 f2 cnt2 l2 (aC.trans (gr.mono aC.size)) (pX.out.bel gr) gI.out Ua;unfold exV kvC at az;dsimp only at az;have HR:=Nf hr;clear hr aa hd hx c0 c1 c2 c3
     go_wp2_with (first|(go_at_call 72;go_loud (refine(az _ Jb).mono ?_;rintro r w3 ⟨rfl,⟨n3,f3,cnt3,kV,sR,iT⟩,bJ⟩)))
     go_roundw
     case rel=>exact⟨k+1,n3,cnt3,f3,x.arrs l2 (0,⟨#[]⟩),Ua,Up,Nf kV,Nf iT,HR,Ua,Nf (Kv bB.out (Kv (K0 (Jc (Nt) _)) bJ))⟩
     case measure=>simp [intOf];omega
    ·obtain rfl:k=e.sub.length:=Ua;have hr:=aa.out;rw [Nn,Ex.arrsL] at hr;rw [Nn] at qW;clear aa;have HR:=Nf hr;clear hr
     go_wp2_with fail
     go_end0
     exact⟨rfl,⟨n2,f2,cnt2,pX.out,Ua,by rw [HR.out];exact gI.out⟩,Kv kX.out bB.out⟩
 have tk8:(e.kind == 8)=false:=Uj;have tk9:(e.kind == 9)=false:=Uj;have lD:∀i,K4 e.kind e.name (ck,cs) i=(ck,cs):=fun i=>Jqs Ua Ua bM;have lq:okC (ck,cs):=hc
 by_cases h7:e.kind=7
 ·have tk7:(e.kind == 7)=true:=S9;have hA:=hR.trans iS.out;rw [if_pos h7] at hA;have HA:=Nf hA;clear hA iS h7 zC bM hR
  go_enter Tryz.func72,Tryz.ntmps72
  go_wp2_with (first|(at_mapUpdate;go_loud (refine Jr3 Jl0 rfl (.tmp 12) (.tmp 13) (.const (.int .i64 1)) 108 rfl Tryz.underlying108 Tryz.underlying3 M n f cnt (ck,cs) 1 rfl (HN.out.bel Jb) Ua rfl rfl hc Ux (Jkb f (ck,cs) 1) (Jmm _ _ _) (fun y _ hy=>Jkt _ _ _ y hy) ?_;intro w2 cI aG;have q3:=Nb w2 W.heap.size 3 (.slice Ae e.sub.length ce) (Jr (aG.block W.heap.size Mw Uj) Uq);have q4:=Na w2 (W.heap.size+1) 0 ck (Jr (aG.block (W.heap.size+1) Mw Uj) Uq);have q5:=Nb w2 (W.heap.size+1) 1 (.string cs) (Jr (aG.block (W.heap.size+1) Mw Uj) Uq);have kI:=aG.size;simp at kI)))
  refine Jo fun W1 bt=>?_;subst bt;have ic:=Jug pV.out (ck,cs);have eR:n+1<=n+1:=Ns _;have ez:W.grownBy W1 (some M):=Kv (K0 Jlo) aG;have af:W.heap.size+2<=W1.heap.size:=Ua;have iw:=cI;have d0:=q4;have d1:=q5;clear cI aG q3 q4 q5 kI;have uO:=Nf iw;have kW:=Nf ic;have kX:=Nf ez;clear iw ic ez
  go_loopw [41] (fun i wr=>∃(k n2 cnt2:Nat) (f2:Int×ByteArray->Option Int) (l2:List (Int×ByteArray)),k<=e.sub.length/\i = .int .i64 k/\Hid (Q3 Tryz.prog 55 3 .i64 okC klC wr M n2 f2 cnt2)/\Hid (Jdf f2 l2)/\Hid (R=Ex.arrsL l2 e.kind e.name (ck,cs) k (e.sub.drop k))/\n2+Ex.sizeL (e.sub.drop k)<=n+e.size/\Hid (W1.grownBy wr (some M))) (fun i _=>e.sub.length-(intOf i).toNat)
  case atStart=>exact⟨0,n+1,_,Jkb f (ck,cs) 1,l ++ [(ck,cs)],Np,rfl,uO,kW,Sb,Vm,Nf (K0 (Nt))⟩
  case round=>
   exact Tz
 ·have tk7:(e.kind == 7)=false:=S9;have hA:=hR.trans iS.out;rw [if_neg h7] at hA;have HA:=Nf hA;clear hA iS h7 zC bM hR
  go_enter Tryz.func72,Tryz.ntmps72
  go_wp2_with fail
  refine Jo fun W1 bt=>?_;have iw:Q3 Tryz.prog 55 3 .i64 okC klC W1 M n f cnt:=by rw [bt];exact HN.out.bel Jlo
  have ic:Jdf f l:=pV.out;have eR:n<=n+1:=Ua;have ez:W.grownBy W1 (some M):=by rw [bt];exact K0 Jlo
  have d0:=Na W1 (W.heap.size+1) 0 ck Lj;have d1:=Nb W1 (W.heap.size+1) 1 (.string cs) Lj;have af:W.heap.size+2<=W1.heap.size:=by rw [bt];simp
  clear bt;have uO:=Nf iw;have kW:=Nf ic;have kX:=Nf ez;clear iw ic ez
  go_loopw [41] (fun i wr=>∃(k n2 cnt2:Nat) (f2:Int×ByteArray->Option Int) (l2:List (Int×ByteArray)),k<=e.sub.length/\i = .int .i64 k/\Hid (Q3 Tryz.prog 55 3 .i64 okC klC wr M n2 f2 cnt2)/\Hid (Jdf f2 l2)/\Hid (R=Ex.arrsL l2 e.kind e.name (ck,cs) k (e.sub.drop k))/\n2+Ex.sizeL (e.sub.drop k)<=n+e.size/\Hid (W1.grownBy wr (some M))) (fun i _=>e.sub.length-(intOf i).toNat)
  case atStart=>exact⟨0,n,cnt,f,l,Np,rfl,uO,kW,Sb,Vm,Nf (K0 (Nt))⟩
  case round=>
   exact Tz
theorem Jua:(Tryz.prog.info? 76).map (fun i=>(i.zero,i.size,i.bytes))=some (some (.agg #[.string ⟨#[]⟩,.int .i64 0,.string ⟨#[]⟩,.int .i32 0]),4,48):=Ug
theorem Jdy (l:List Ce) (c:Ce):X7 (l ++ [c])=X7 l ++ [.string c.name,.int .i64 c.ck,.string c.cn,.int .i32 c.first]:=by unfold X7;simp
theorem Jx1 {P:Program} {k e:TypeId} {q:IntKind} {K:Type} {ok:K->Prop} {kv:K->Value} {kl:K->Lit} {w:World} (ks:Jer P k ok kv kl) {t:TypeId}
  (ht:P.underlying t=some (.map k e)) (he:P.underlying e=some (.int q))
  {b n:Nat} {f:K->Option Int} {c:Nat} {s:K} {i:Int} {x:Value} (hx:x=kv s) (ae:Q3 P k e q ok kl w b n f c) (hn:n<1000000000)
  (hs:ok s) (hi:(Lit.int q i).wf=true) (f':K->Option Int) (db:f' s=some i) (gO:∀y,ok y->y≠s->f' y=f y) :
  ∃w',(Instr.mapUpdate t (.map (some b)) x (.int q i)).run P w = .ok () w'/\Q3 P k e q ok kl w' b (n+1) f' (if (f s).isSome then c else c+1)/\w.grownBy w' (some b):=by
 subst hx;obtain⟨D,h1,h2,hc,h3⟩:=ae;have fR:WideAt.IsKeyLit (kl s):=ks.keyed.key (ks.read s hs);obtain⟨w',eH,h4,h5⟩:=h1.update ks.keyed ht U2 (ks.read s hs) (plainElem_int he hi)
 exact⟨w',eH,⟨_,h4,h2.put fR _,by rw [Maps.size_put h2,(h3 s hs).1,hc],fun y hy=>by
  by_cases oJ:y=s
  ·subst oJ;rw [has_put_same h2.isMap fR,atKey_put_same h2.isMap fR,db];exact Ul
  ·have aS:kl y≠kl s:=fun h=>oJ (ks.inj y s hy hs h);rw [has_put_other aS,atKey_put_other aS,(h3 y hy).1,(h3 y hy).2,gO y hy oJ];exact⟨rfl,rfl⟩⟩,h5⟩
structure Jd1 (W:World) (M F X bm bx base:Nat) (L:List (Int×ByteArray)) (cs:List Ce) (n:Nat) (v:Value):Prop where
 m:W.cell? ⟨bm,0,none⟩=some (.map (some M))
 x:W.cell? ⟨bx,0,none⟩=some (.pointer (some ⟨X,0,none⟩))
 x6:W.cell? ⟨X,6,none⟩=some v
 x7:W.cell? ⟨X,7,none⟩=some (.map (some F))
 met:∃n f c,Q3 Tryz.prog 55 3 .i64 okC klC W M n f c/\Jdf f L
 flg:∃f c,Q3 Tryz.prog 55 3 .i64 okC klC W F n f c
 own:W.ownsRow base 76 4 v cs.length (X7 cs)
 fz:W.frozen? ⟨X,6,none⟩=false
def Jxp (F X:Nat) (v:Value) (k:Nat):Prop:=k=F\/k=X\/some k=v.ownBlock
theorem Jhd (M F X bm bx base:Nat) (hM:M<base) (hF:F<base) (hX:X<base) (iQ:bm<base) (fk:bx<base) (n1:F≠X) (n2:F≠M) (n3:F≠bm) (n4:F≠bx) (n5:X≠M) (n6:X≠bm) (n7:X≠bx)
  (L:List (Int×ByteArray)) (ck:Int) (cs:ByteArray) (csl:List Ce) (n:Nat) (v:Value) (W:World) (hB:base<=W.heap.size) (st:Jd1 W M F X bm bx base L csl n v) (hc:okC (ck,cs)) (hn:n<=1000000) (hl:csl.length<=1000000) :
  Calls Tryz.prog 74 #[.agg #[.int .i64 ck,.string cs],.pointer (some ⟨bm,0,none⟩),.pointer (some ⟨bx,0,none⟩)] W fun r w'=>r = .returned (.tuple #[])/\(∃v',Jd1 w' M F X bm bx base L (if inC L (ck,cs)=true then csl ++ [Jb6 (ck,cs)] else csl) (n+1) v'/\(v'.ownBlock=v.ownBlock\/∀k,v'.ownBlock=some k->W.heap.size<=k))/\J6 (Jxp F X v) W w':=by
 obtain⟨m0,x0,x6,x7,⟨nM,f,c,fL,hM2⟩,⟨f2,c2,uP⟩,ae,eh⟩:=st;obtain⟨Av,cv,rfl,zD,nL⟩:=Jv ae;unfold maxLen at nL;have dV:=hM2 (ck,cs) hc;have z1:bm<W.heap.size:=Ua;have z2:bx<W.heap.size:=Ua;have z3:X<W.heap.size:=Ua;have z4:M<W.heap.size:=Ua;have z5:F<W.heap.size:=Ua;have hlk:=Jcb (w:=W.alloc (.cells #[.int .i64 ck,.string cs] 55)) Jl0 (x:= .agg #[.int .i64 ck,.string cs]) Tryz.underlying108 Tryz.underlying3 (Jxy _) rfl (fL.bel Jb) hc rfl;have wL:=Nf uP;have HME:=Nf fL;have kj:=Nf hM2;generalize (f (ck,cs)).getD 0=r at dV hlk
 cases hb:inC L (ck,cs)
 ·have tr:¬(0:Int)<r:=by rw [hb] at dV;simpa using dV
  clear dV uP fL hM2 hb
  go_enter Tryz.func74,Tryz.ntmps74
  go_wp2_with fail
  go_end0
  have ab:Below W.heap.size W (W.alloc (.cells #[.int .i64 ck,.string cs] 55)):=Jb;exact⟨rfl,⟨_,⟨Ja ab m0,Ja ab x0,Ja ab x6,Ja ab x7,⟨nM,f,c,HME.out.bel ab,kj.out⟩,⟨f2,c2,(wL.out.bel ab).more Ua⟩,Jy ae ab,(Jf ab X 6 (Nu x6)).trans eh⟩,.inl rfl⟩,J6.bel ab⟩
 ·have tr:(0:Int)<r:=by rw [hb] at dV;simpa using dV
  clear dV uP fL hM2 hb;have hc64:(Lit.int .i64 (csl.length:Int)).wf=true:=Jok Vs;have uQ:=Jua
  go_enter Tryz.func74,Tryz.ntmps74
  go_wp2_with fail
  have zF:Q3 Tryz.prog 55 3 .i64 okC klC (W.alloc (.cells #[.int .i64 ck,.string cs] 55)).drew F n f2 c2:=wL.out.bel Jb;obtain⟨w2,cP,cI,aG⟩:=Jx1 Jl0 (x:= .agg #[.int .i64 ck,.string cs]) Tryz.underlying108 Tryz.underlying3 rfl zF Ua hc hc64 (Jkb f2 (ck,cs) csl.length) (Jmm _ _ _) (fun y _ hy=>Jkt _ _ _ y hy);have nT:J6 (fun k=>k=F) W w2:=(J6.bel (S:=fun k=>k=F) (Jh (Jc (Nt) _))).trans' (J6.grown aG fun k hk=>by injection hk with hk;exact hk.symm);have dH:=aG.size;simp at dH;have b0:=nT.cell (fun h=>n4 h.symm) x0;have b6:=nT.cell (fun h=>n1 h.symm) x6;have b7:=nT.cell (fun h=>n1 h.symm) x7;have bm0:=nT.cell (fun h=>n3 h.symm) m0;have bf:=Nc w2 X 6 ((World.frozen?_of_block (a:=⟨X,6,none⟩) (nT.block X z3 (fun h=>n1 h.symm))).trans eh);have jv:∀o u,(W.alloc (.cells #[.int .i64 ck,.string cs] 55)).drew.cell? ⟨W.heap.size,o,none⟩=some u->w2.cell? ⟨W.heap.size,o,none⟩=some u:=fun o u hu=>Jr (aG.block W.heap.size Ul Vc) hu;have e0:=jv 0 (.int .i64 ck) Uq;have e1:=jv 1 (.string cs) Uq;have ao:=nT.own (fun b hb he=>Ft) ae;have HM2':=Nf cI;have HKF:=Nf nT;have aq:base<=w2.heap.size:=Ua;have br:=lt0 W w2;have y2:bx<w2.heap.size:=Ua;have y3:X<w2.heap.size:=Ua;have HM:=Nf cI;have HKF:=Nf nT;clear zF cI nT aG jv
  go_region
  clear cP hlk
  go_wp2_with fail
  obtain⟨S,hSd⟩:∃S:World->Prop,S=fun w'=>w'.cell? ⟨bx,0,none⟩=some (.pointer (some ⟨X,0,none⟩))/\w'.cell? ⟨X,6,none⟩=some (.slice Av csl.length cv)/\w'.cell? ⟨W.heap.size,0,none⟩=some (.int .i64 ck)/\w'.cell? ⟨W.heap.size,1,none⟩=some (.string cs):=⟨_,rfl⟩;have ar:S w2.drew:=by rw [hSd];exact⟨b0,b6,e0,e1⟩
  refine Kd S 9 3 Ug Gd ?_;simp only [List.size_toArray,Nl,Nm,Nat.zero_add,Nat.reduceAdd];rw [hSd] at ar;rw [hSd];clear hSd;refine Ji 0 ar ?_;refine Ji 1 ar ?_;refine Ji 2 ar ?_;refine Ji 3 ar ?_;refine Ji 4 ar ?_;refine Ji 5 ar ?_;refine Ji 6 ar ?_;refine Kb 7 ?_;refine Jj fun K hK=>?_;go_simp;have dr:∀u,(w2.alloc u).drew.cell? ⟨bx,0,none⟩=some (.pointer (some ⟨X,0,none⟩))/\(w2.alloc u).drew.cell? ⟨X,6,none⟩=some (.slice Av csl.length cv)/\(w2.alloc u).drew.cell? ⟨W.heap.size,0,none⟩=some (.int .i64 ck)/\(w2.alloc u).drew.cell? ⟨W.heap.size,1,none⟩=some (.string cs):=fun u=>⟨J4 b0,J4 b6,J4 e0,J4 e1⟩;refine hK _ _ ⟨dr _,?_⟩;clear hK K;refine Kb 8 ?_;refine Ji5 (.tmp 22) (.tmp 25) 61 rfl base 76 _ 4 48 Tryz.underlying61 uQ rfl Ua (.slice Av csl.length cv) csl.length (X7 csl) w2.heap.size 1 1 [.string ⟨#[]⟩,.int .i64 ck,.string cs,.int .i32 0] rfl (Kp (Js ao)) rfl rfl (fun j u hj=>by refine(Qo (w:=w2) (c:=#[.string ⟨#[]⟩,.int .i64 ck,.string cs,.int .i32 0]) (t:=76) rfl).trans ?_;simpa using hj) Uv Ua Ua Uj ?_;intro v3 w3 aE bJ iM;obtain⟨A3,c3,rfl,hc31,hc32⟩:=Jv aE;have uR:some X≠(Value.slice Av csl.length cv).ownBlock:=fun he=>by have:=(ae.lt X he.symm).1;omega
  have hne4:some bx≠(Value.slice Av csl.length cv).ownBlock:=fun he=>by have:=(ae.lt bx he.symm).1;omega
  have zG:some W.heap.size≠(Value.slice Av csl.length cv).ownBlock:=fun he=>by have:=(ae.lt W.heap.size he.symm).2;omega
  have k0:=Nb w3 bx 0 (.pointer (some ⟨X,0,none⟩)) (Jr (bJ.block bx Uj hne4) (dr _).1);have k6:=Nb w3 X 6 (.slice Av csl.length cv) (Jr (bJ.block X Uj uR) (dr _).2.1);have kf:=Nc w3 X 6 ((World.frozen?_of_block (a:=⟨X,6,none⟩) (bJ.block X Uj uR)).trans ((Jf (Jh (Jc (Nt) _)) X 6 Ua).trans bf));refine⟨⟨k0,k6,Jr (bJ.block W.heap.size Uj zG) (dr _).2.2.1,Jr (bJ.block W.heap.size Uj zG) (dr _).2.2.2⟩,Kh Ug ?_⟩
  try simp only [Act.put,sa1,sa2,sa3]
  refine Qx 9 ?_;refine Jj fun K hK=>?_;go_simp;refine hK _ _ ?_;clear hK K
  try simp only [Act.put,sa1,sa2,sa3]
  refine Qx 10 ?_;refine Jj fun K hK=>?_;go_simp;refine hK _ _ ?_;clear hK K
  try simp only [Act.put,sa1,sa2,sa3]
  refine Qx 11 ?_;refine Jj fun K hK=>?_;go_simp;refine hK _ _ ?_;clear hK K
  try simp only [Act.put,sa1,sa2,sa3]
  have lw:∀j,some j=(Value.slice Av csl.length cv).ownBlock->base<=j:=fun j h=>(ae.lt j h.symm).1
  have zH:J6 (fun k=>k=X\/some k=(Value.slice Av csl.length cv).ownBlock) w2 (w3.setCell ⟨X,6,none⟩ (.slice A3 (csl.length+1) c3)):=
   ((J6.bel (S:=fun k=>k=X\/some k=(Value.slice Av csl.length cv).ownBlock) (Jh (Jc (Below.refl w2.heap.size w2) _))).trans' (J6.grown bJ fun k hk=> .inr hk.symm)).setCell (.inl rfl) _ _
  have hK1:J6 (Jxp F X (.slice Av csl.length cv)) W (w3.setCell ⟨X,6,none⟩ (.slice A3 (csl.length+1) c3)):=
   (HKF.out.less fun k _ hk=> .inl hk).trans zH fun k _ hk=>by
    rcases hk with hk|hk
    ·exact .inr (.inl hk)
    ·exact .inr (.inr hk)
  have iE:Jd1 (w3.setCell ⟨X,6,none⟩ (.slice A3 (csl.length+1) c3)) M F X bm bx base L (csl ++ [Jb6 (ck,cs)]) (n+1) (.slice A3 (csl.length+1) c3):=by
   refine⟨zH.cell (fun h=>Udr) bm0,zH.cell (fun h=>Udr) b0,Nx _ _ _ k6,?_,?_,?_,?_,?_⟩
   ·exact(World.cell?_setCell_other _ _ _ _ (by intro he;injection he with e1 e2;exact absurd e2 Ux)).trans (Jr (bJ.block X Uj uR) (Zw (J4 b7)))
   ·exact⟨nM,f,c,HME.out.keep1 (hK1.block M z4 (fun h=>by rcases h with h|h|h;exact absurd h Ua;exact absurd h Ua;have:=lw _ h;omega)),kj.out⟩
   ·exact⟨_,_,HM.out.keep1 (zH.block F Ua (fun h=>Udr))⟩
   ·rw [Jdy,Nk];exact Kn aE (fun b hb he=>by have:=(aE.lt b hb).1;omega) _ _
   ·rw [World.frozen?_setCell];exact kf
  have zI:(Value.slice A3 (csl.length+1) c3).ownBlock=(Value.slice Av csl.length cv).ownBlock\/∀k,(Value.slice A3 (csl.length+1) c3).ownBlock=some k->W.heap.size<=k:=iM.imp id (fun h k hk=>by have:=h k hk;simp at this;omega);have pY:=Nf iE;have HK1:=Nf hK1;have HV3:=Nf zI;clear hK1 zH iE zI;refine Ki Ug ?_
  go_wp2_with fail
  go_end0
  exact⟨rfl,⟨_,pY.out,HV3.out⟩,HK1.out⟩
theorem Jd1.later {W W':World} {M F X bm bx base:Nat} {L:List (Int×ByteArray)} {cs:List Ce} {n:Nat} {v:Value} (h:Jd1 W M F X bm bx base L cs n v) (hb:Below W.heap.size W W'):Jd1 W' M F X bm bx base L cs n v:=by
 obtain⟨m0,x0,x6,x7,⟨a,b,c,hm,hM⟩,⟨d,e,hf⟩,ae,eh⟩:=h;exact⟨Ja hb m0,Ja hb x0,Ja hb x6,Ja hb x7,⟨a,b,c,hm.bel hb,hM⟩,⟨d,e,hf.bel hb⟩,Jy ae hb,(Jf hb X 6 (Nu x6)).trans eh⟩
theorem Jc1 (m:List (Int×ByteArray)) (l:List (Int×ByteArray)) (c:Int×ByteArray):Kaq m (l ++ [c])=if inC m c=true then Kaq m l ++ [Jb6 c] else Kaq m l:=by
 unfold Kaq;rw [List.filter_append,List.map_append,List.filter_cons]
 cases h:inC m c <;> simp
theorem Jnf {L:List Va} {k:Nat} {x:Va} (h:L[k]?=some x):X3 (L.take (k+1))=X3 (L.take k) ++ [(1,x.name)] ++ [(2,x.name)]:=by
 obtain⟨am,hx⟩:=Nh h;have e:L.take (k+1)=L.take k ++ [x]:=by rw [List.take_succ_eq_append_getElem am,hx]
 rw [e];unfold X3;exact Ul
end Go.Proofs.YtknfcamdfdfoeaaGreatDoor
namespace Go.Proofs.YtknfcamdfdfoeaaGreatDoor
open Go.RowKit Go.Sort
theorem Jle {P:Program} {f:FuncId} {args:Array Value} {R:Ending->World->Prop} {W:World} (h:∀W0,W0=W->Calls P f args W0 R):Calls P f args W R:=h W rfl
end Go.Proofs.YtknfcamdfdfoeaaGreatDoor
