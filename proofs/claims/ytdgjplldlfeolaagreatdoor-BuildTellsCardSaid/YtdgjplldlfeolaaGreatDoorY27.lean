/- Lemmas. -/
import Derived.Test.YtdgjplldlfeolaaGreatDoorMac
import Derived.Test.YtdgjplldlfeolaaGreatDoorY08
import Derived.Test.YtdgjplldlfeolaaGreatDoorY00
import Derived.Test.YtdgjplldlfeolaaGreatDoorY23
import Derived.Deep.RegionLaw
set_option linter.unusedVariables false
set_option linter.unusedSimpArgs false
set_option maxRecDepth 100000
set_option maxHeartbeats 64000000
namespace Go.Proofs.YtdgjplldlfeolaaGreatDoor
open Go.RowKit Go.Sort Go.Maps Go.ChangeMaps Go.WideMaps
theorem Jnz (e:Ex) (A:Option Addr) (cap:Nat) (w:World) (he:Jt w e A cap) (hl:e.kind=4->∃x r,e.sub=x :: r) :
  Calls Tryz.prog 130 #[exV e A cap] w fun r w'=>r = .returned (.int .i32 (Jai e))/\Below w.heap.size w w':=by
 have ai:=he.len;unfold maxLen at ai;obtain⟨bI,aD⟩:=ai;unfold exV
 by_cases hk:e.kind=4
 ·obtain⟨x,r,hs⟩:=hl hk;have hx:e.sub[0]?=some x:=by rw [hs];rfl
  have am:0<e.sub.length:=by rw [hs];simp
  have hv:Jai e=W32 (-x.n):=by unfold Jai;rw [if_pos hk,hs]
  obtain⟨b,off,A',cap',rfl,c0,c1,c2,c3,bd⟩:=he.get hx;have tk:(e.kind == 4)=true:=Lq;simp only [Nat.zero_mul,Nat.add_zero] at c0 c1 c2 c3;have fk:b<w.heap.size:=Nu c0;unfold W32 at hv;clear hk hs hl hx;have HV:=Nf hv;clear hv
  go_enter Tryz.func130,Tryz.ntmps130
  go_wp2_with fail
  go_ret;exact⟨Jm (by rw [HV.out,IntWalk.i32_left]),Jb⟩
 ·have hv:Jai e=e.n:=by unfold Jai;rw [if_neg hk]
  have tk:(e.kind == 4)=false:=Lq;clear hk hl;have HV:=Nf hv;clear hv
  go_enter Tryz.func130,Tryz.ntmps130
  go_wp2_with fail
  exact Uc3
def Jdf (f:Int×ByteArray->Option Int) (l:List (Int×ByteArray)):Prop:=∀c,okC c->decide (0<(f c).getD 0)=inC l c
theorem Jw9:Jdf (fun _=>none) []:=fun c _=>by unfold inC;simp
def Jkb (f:Int×ByteArray->Option Int) (c:Int×ByteArray) (i:Int):Int×ByteArray->Option Int:=fun d=>if K9 c.1 c.2 d.1 d.2=true then some i else f d
theorem Jmm (f:Int×ByteArray->Option Int) (c:Int×ByteArray) (i:Int):Jkb f c i c=some i:=if_pos (Jvf c)
theorem Jkt (f:Int×ByteArray->Option Int) (c:Int×ByteArray) (i:Int) (d:Int×ByteArray) (h:d≠c):Jkb f c i d=f d:=if_neg fun e=>h (Jyj e).symm
theorem Jug {f:Int×ByteArray->Option Int} {l:List (Int×ByteArray)} (h:Jdf f l) (c:Int×ByteArray):Jdf (Jkb f c 1) (l ++ [c]):=fun d hd=>by
 rw [Jwh,<-h d hd];unfold Jkb
 cases hc:K9 c.1 c.2 d.1 d.2
 ·rw [if_neg Uh,Bool.or_false]
 ·rw [if_pos rfl,Bool.or_true];rfl
theorem Jxy (w:World):(zeroValue 3).run Tryz.prog w = .ok (.int .i64 0) w:=Kj w
def Jzo (M:Nat) (w0:World) (x:Ex):Prop:=∀(A:Option Addr) (cap:Nat) (c:Int×ByteArray),Jt w0 x A cap->okC c->∀(W:World) (n:Nat) (f:Int×ByteArray->Option Int) (cnt:Nat) (l:List (Int×ByteArray)),Below w0.heap.size w0 W->Q3 Tryz.prog 81 3 .i64 okC klC W M n f cnt->Jdf f l->n+x.size<=900000000->
  Calls Tryz.prog 129 #[.map (some M),exV x A cap,kvC c] W fun r w'=>r = .returned (.tuple #[])/\(∃n' f' cnt',Q3 Tryz.prog 81 3 .i64 okC klC w' M n' f' cnt'/\n'<=n+x.size/\Jdf f' (x.arrs l c))/\W.grownBy w' (some M)
theorem Jqs {k:Int} {s:ByteArray} {c:Int×ByteArray} {i:Nat} (h8:k≠8) (h9:k≠9) (bM:k≠10):K4 k s c i=c:=by unfold K4;rw [if_neg bM,if_neg Ua]
theorem Jtk {k:Int} {s:ByteArray} {c:Int×ByteArray} {i:Nat} (h:k=8\/k=9):K4 k s c i=(0,⟨#[]⟩):=by unfold K4;rw [if_neg Ua,if_pos h]
theorem Jjr {s:ByteArray} {c:Int×ByteArray} {i:Nat} : K4 10 s c i=(1+(i:Int),s):=by unfold K4;rw [if_pos rfl]
theorem Jr2 (M:Nat) (w0:World) (hM:w0.heap.size<=M) (e:Ex):e.OK->e.formed=true->Jzo M w0 e:=by
 induction e using Ex.ind with
 | h e ih0=>
 intro aw cO Ae ce c he hc W n f cnt l dZ kg fL hn;have ih:∀x∈e.sub,Jzo M w0 x:=fun x hx=>ih0 x hx (Ex.OK_sub aw hx) (Q9 cO x hx);have fE:e.name.size<=maxLen:=by cases e;exact aw.2.2.1
 have hmz:=fun h=>Jfj cO h;have hMW:=kg.lt;have ai:=he.len;unfold maxLen at ai;obtain⟨bI,aD⟩:=ai;have cE:=Ex.size_eq e;have ga:=Ex.arrs_eq l e c;obtain⟨ck,cs⟩:=c;clear ih0 aw cO;have HN:=Nf kg;clear kg;have pV:=Nf fL;clear fL;have iS:=Nf ga;clear ga;have cP:=@Jl0;unfold exV kvC at *;dsimp only at *;obtain⟨R,hR⟩:∃R,R=e.arrs l (ck,cs):=⟨_,rfl⟩;rw [<-hR]
 by_cases bM:e.kind=10
 ·have tk7:(e.kind == 7)=false:=by rw [bM];rfl
  have tk8:(e.kind == 8)=false:=by rw [bM];rfl
  have tk9:(e.kind == 9)=false:=by rw [bM];rfl
  have tk10:(e.kind == 10)=true:=by rw [bM];rfl
  have h2:=hmz bM
  obtain⟨x,y,aT⟩:∃x y,e.sub = [x,y]:=by
   match hs:e.sub with
   | [x,y]=>exact⟨x,y,rfl⟩
   | []=>rw [hs] at h2;simp at h2
   | [_]=>rw [hs] at h2;simp at h2
   | _ :: _ :: _ :: _=>rw [hs] at h2;simp at h2
  have hA:=hR.trans iS.out;rw [if_neg Ua,aT,bM,Ex.arrsL,Ex.arrsL,Ex.arrsL,Jjr,Jjr] at hA;have hx:e.sub[0]?=some x:=by rw [aT];rfl
  have hy:e.sub[1]?=some y:=by rw [aT];rfl
  have ihx:=ih x (by rw [aT];simp);have ihy:=ih y (by rw [aT];simp);rw [aT] at cE;simp only [Ex.sizeL] at cE;have HW:=Nf (he.later dZ);obtain⟨b,off,A1,k1,rfl,x0,x1,x2,x3,bC⟩:=(he.later dZ).get hx;obtain⟨b',off',A2,k2,pW,y0,y1,y2,y3,bd⟩:=(he.later dZ).get hy;injection pW with pW;injection pW with e1 e2;subst e1 e2;simp only [Nat.zero_mul,Nat.add_zero] at x0 x1 x2 x3;simp only [Nat.one_mul] at y0 y1 y2 y3;have ax:=(he.get hx);obtain⟨b',off',A1',k1',pW,z0,z1,z2,z3,hs1'⟩:=ax;injection pW with pW;injection pW with e1 e2;subst e1 e2;simp only [Nat.zero_mul,Nat.add_zero] at z0 z1 z2 z3;have cD:=Ja dZ z3;rw [x3] at cD;injection cD with cD;injection cD with e1 e2 e3;subst e1 e3;obtain⟨b',off',A2',k2',pW,z0',z1',z2',z3',hs2'⟩:=he.get hy;injection pW with pW;injection pW with e1 e2;subst e1 e2;have dz:=Ja dZ z3';rw [y3] at dz;injection dz with dz;injection dz with e1 e2 e3;subst e1 e3;have ln:okC (1+((0:Nat):Int),e.name):=⟨Vy,fE⟩;have jm:okC (1+((0+1:Nat):Int),e.name):=⟨Vy,fE⟩;have ak:=fun W' (gr:Below W.heap.size W W')=>ihx _ _ (1+((0:Nat):Int),e.name) hs1' ln W' n f cnt l (dZ.trans (gr.mono dZ.size)) (HN.out.bel gr) pV.out Ua;have dm:=fun W' n' f' cnt' (gr:Below w0.heap.size w0 W') (yp:Q3 Tryz.prog 81 3 .i64 okC klC W' M n' f' cnt') (xt:Jdf f' (x.arrs l (1+((0:Nat):Int),e.name))) (wg:n'+y.size<=900000000)=>ihy _ _ (1+((0+1:Nat):Int),e.name) hs2' jm W' n' f' cnt' _ gr yp xt wg;have dO:e.sub.length=2:=by rw [aT];rfl
  rw [dO];unfold exV kvC at ak dm;dsimp only at ak dm;simp only [Nat.zero_add] at ak dm hA;rw [show(1:Int)+((0:Nat):Int)=1 from rfl] at ak dm hA;rw [show(1:Int)+((1:Nat):Int)=2 from rfl] at dm hA;have HA:=Nf hA;have fk:b<W.heap.size:=Nu x0;have hbM:b≠M:=by have hh:b<w0.heap.size:=Nu z0;omega
  clear hA hR iS bM aT hx hy ih ihx ihy z0 z1 z2 z3 z0' z1' z2' z3' ln jm bC bd hmz bI aD
  go_enter Tryz.func129,Tryz.ntmps129
  go_wp2_with fail
  go_region_law (first|(go_simp;go_wp2_with (go_at_call 129;go_loud (refine(ak _ Jb).mono ?_;rintro r w3 ⟨rfl,⟨n3,f3,cnt3,kV,sR,iT⟩,bJ⟩))))
  all_goals
   have fe:=bJ.size;simp at fe;have ft:∀k o u,k<W.heap.size+2->k≠M->(((W.alloc (.cells #[.int .i64 e.kind,.int .i32 e.n,.string e.name,.slice (some ⟨b,off,none⟩) 2 ce] 73)).alloc (.cells #[.int .i64 ck,.string cs] 81))).cell? ⟨k,o,none⟩=some u->w3.cell? ⟨k,o,none⟩=some u:=fun k o u hk aS hu=>Jr (bJ.block k Ui (by simpa using aS)) hu;have p2:=ft W.heap.size 2 (.string e.name) Ua Ua Uc;have p3:=ft W.heap.size 3 (.slice (some ⟨b,off,none⟩) 2 ce) Ua Ua Uc;have v0:=ft b _ _ Ua hbM (J4 (J4 y0));have v1:=ft b _ _ Ua hbM (J4 (J4 y1));have v2:=ft b _ _ Ua hbM (J4 (J4 y2));have v3:=ft b _ _ Ua hbM (J4 (J4 y3));have rG:W.grownBy w3 (some M):=Kv (K0 (Jh (Jc (Jc (Nt) _) _))) bJ;have rH:=Nd w0 w3 (Kou dZ rG (fun k hk=>Db) dZ.size);have hm3':∀W',Below w3.heap.size w3 W'->Q3 Tryz.prog 81 3 .i64 okC klC W' M n3 f3 cnt3:=fun W' h=>kV.bel h;have eG:1<2:=Ua;have h12':(1:Int)<((2:Nat):Int):=Ua;clear ft bJ kV x0 x1 x2 x3 y0 y1 y2 y3 ak HN pV
   go_wp2_with fail
   go_region_law (first|(go_simp;go_wp2_with (go_at_call 129;go_loud (refine(dm _ n3 f3 cnt3 (Jn rH (B:=w3.heap.size) Jb rH.size) (hm3' _ Jb) iT Ua).mono ?_;rintro r w4 ⟨rfl,⟨n4,f4,cnt4,sS,hn4,zB⟩,cg⟩))))
   all_goals
    have hg4':w3.grownBy w4 (some M):=Kv (K0 (Jh (Nt))) cg
    go_wp2_with fail
    refine Nv (results_none Ue _ _ _) rfl ?_;exact⟨rfl,⟨n4,f4,cnt4,sS,Ua,by rw [HA.out];exact zB⟩,Kv rG hg4'⟩
 have tk10:(e.kind == 10)=false:=F7
 by_cases zC:e.kind=8\/e.kind=9
 ·have tk7:(e.kind == 7)=false:=Ui;have hA:=hR.trans iS.out;rw [if_neg Ua] at hA;have HA:=Nf hA;have lD:∀i,K4 e.kind e.name (ck,cs) i=(0,⟨#[]⟩):=fun i=>Jtk zC;have lq:okC (0,⟨#[]⟩):=⟨Vy,Sg⟩;have h7:e.kind≠7:=Ua;clear hA iS bM h7 hR
  have hk8:((e.kind == 8)=true/\(e.kind == 9)=false)\/((e.kind == 8)=false/\(e.kind == 9)=true):=by
   rcases zC with h|h
   ·left;rw [h];exact⟨rfl,rfl⟩
   ·right;rw [h];exact⟨rfl,rfl⟩
  clear zC
  rcases hk8 with ⟨tk8,tk9⟩|⟨tk8,tk9⟩
  all_goals
   go_enter Tryz.func129,Tryz.ntmps129
   go_wp2_with fail
   refine Jo fun W1 bt=>?_;have iw:Q3 Tryz.prog 81 3 .i64 okC klC W1 M n f cnt:=by rw [bt];exact HN.out.bel Jlo
   have ic:Jdf f l:=pV.out;have eR:n<=n+1:=Ua;have ez:W.grownBy W1 (some M):=by rw [bt];exact K0 Jlo
   have d0:=Na W1 (W.heap.size+1) 0 0 Ve;have d1:=Nb W1 (W.heap.size+1) 1 (.string ⟨#[]⟩) Ve;have af:W.heap.size+2<=W1.heap.size:=Dr;clear bt;have uO:=Nf iw;have kW:=Nf ic;have kX:=Nf ez;clear iw ic ez
   go_loopw [41] (fun i wr=>∃(k n2 cnt2:Nat) (f2:Int×ByteArray->Option Int) (l2:List (Int×ByteArray)),k<=e.sub.length/\i = .int .i64 k/\Hid (Q3 Tryz.prog 81 3 .i64 okC klC wr M n2 f2 cnt2)/\Hid (Jdf f2 l2)/\Hid (R=Ex.arrsL l2 e.kind e.name (ck,cs) k (e.sub.drop k))/\n2+Ex.sizeL (e.sub.drop k)<=n+e.size/\Hid (W1.grownBy wr (some M))) (fun i _=>e.sub.length-(intOf i).toNat)
   case atStart=>exact⟨0,n,cnt,f,l,Np,rfl,uO,kW,Sc,Vr,Nf (K0 (Nt))⟩
   case round=>
    obtain⟨k,n2,cnt2,f2,l2,hk,rfl,pX,gI,aa,qW,bB⟩:=hrel;have bu:=bB.out.size;have bV:=ltA W 1 wr;have gB:=Nd w0 W1 (Kou dZ kX.out (fun b hb=>Uv) dZ.size);have aC:=Nd w0 wr (Kou gB bB.out (fun b hb=>Uv) gB.size);have d0':=Jr (a:=⟨W.heap.size+1,0,none⟩) (bB.out.block (W.heap.size+1) Ua Ui) d0;have d1':=Jr (a:=⟨W.heap.size+1,1,none⟩) (bB.out.block (W.heap.size+1) Ua Ui) d1
    by_cases am:k<e.sub.length
    ·have hx:e.sub[k]?=some e.sub[k]:=Ng am;have aj:e.sub[k]∈e.sub:=Nj am;have hd:e.sub.drop k=e.sub[k] :: e.sub.drop (k+1):=No am;generalize e.sub[k]=x at hx aj hd;obtain⟨b,off,A',cap',rfl,c0,c1,c2,c3,hs⟩:=he.get hx;have c0':=Ja aC c0;have c1':=Ja aC c1;have c2':=Ja aC c2;have c3':=Ja aC c3;have hr:=aa.out;rw [hd,Ex.arrsL,lD] at hr;rw [hd,Ex.sizeL] at qW;have az:=fun W' (gr:Below wr.heap.size wr W')=>ih x aj A' cap' (0,⟨#[]⟩) hs lq W' n2 f2 cnt2 l2 (aC.trans (gr.mono aC.size)) (pX.out.bel gr) gI.out Ua;unfold exV kvC at az;dsimp only at az;have HR:=Nf hr;clear hr aa hd hx c0 c1 c2 c3
     go_wp2_with (first|(go_at_call 129;go_loud (refine(az _ Jb).mono ?_;rintro r w3 ⟨rfl,⟨n3,f3,cnt3,kV,sR,iT⟩,bJ⟩)))
     go_roundw
     case rel=>exact⟨k+1,n3,cnt3,f3,x.arrs l2 (0,⟨#[]⟩),Ua,Uw,Nf kV,Nf iT,HR,Ua,Nf (Kv bB.out (Kv (K0 (Jc (Nt) _)) bJ))⟩
     case measure=>simp [intOf];omega
    ·obtain rfl:k=e.sub.length:=Ua;have hr:=aa.out;rw [Nn,Ex.arrsL] at hr;rw [Nn] at qW;clear aa;have HR:=Nf hr;clear hr
     go_wp2_with fail
     go_end0
     exact⟨rfl,⟨n2,f2,cnt2,pX.out,Ua,by rw [HR.out];exact gI.out⟩,Kv kX.out bB.out⟩
 have tk8:(e.kind == 8)=false:=Ui;have tk9:(e.kind == 9)=false:=Ui;have lD:∀i,K4 e.kind e.name (ck,cs) i=(ck,cs):=fun i=>Jqs Ua Ua bM;have lq:okC (ck,cs):=hc
 by_cases h7:e.kind=7
 ·have tk7:(e.kind == 7)=true:=by simpa using h7
  have hA:=hR.trans iS.out;rw [if_pos h7] at hA;have HA:=Nf hA;clear hA iS h7 zC bM hR
  go_enter Tryz.func129,Tryz.ntmps129
  go_wp2_with (first|(at_mapUpdate;go_loud (refine Jr3 Jl0 rfl (.tmp 12) (.tmp 13) (.const (.int .i64 1)) 227 rfl Tryz.underlying227 Tryz.underlying3 M n f cnt (ck,cs) 1 rfl (HN.out.bel Jb) Ua rfl rfl hc Ug (Jkb f (ck,cs) 1) (Jmm _ _ _) (fun y _ hy=>Jkt _ _ _ y hy) ?_;intro w2 cI aG;have q3:=Nb w2 W.heap.size 3 (.slice Ae e.sub.length ce) (Jr (aG.block W.heap.size (by simp;try omega) Ui) Uc);have q4:=Na w2 (W.heap.size+1) 0 ck (Jr (aG.block (W.heap.size+1) (by simp;try omega) Ui) Uc);have q5:=Nb w2 (W.heap.size+1) 1 (.string cs) (Jr (aG.block (W.heap.size+1) (by simp;try omega) Ui) Uc);have kI:=aG.size;simp at kI)))
  refine Jo fun W1 bt=>?_;subst bt;have ic:=Jug pV.out (ck,cs);have eR:n+1<=n+1:=Ns _;have ez:W.grownBy W1 (some M):=Kv (K0 Jlo) aG;have af:W.heap.size+2<=W1.heap.size:=Ua;have iw:=cI;have d0:=q4;have d1:=q5;clear cI aG q3 q4 q5 kI;have uO:=Nf iw;have kW:=Nf ic;have kX:=Nf ez;clear iw ic ez
  go_loopw [41] (fun i wr=>∃(k n2 cnt2:Nat) (f2:Int×ByteArray->Option Int) (l2:List (Int×ByteArray)),k<=e.sub.length/\i = .int .i64 k/\Hid (Q3 Tryz.prog 81 3 .i64 okC klC wr M n2 f2 cnt2)/\Hid (Jdf f2 l2)/\Hid (R=Ex.arrsL l2 e.kind e.name (ck,cs) k (e.sub.drop k))/\n2+Ex.sizeL (e.sub.drop k)<=n+e.size/\Hid (W1.grownBy wr (some M))) (fun i _=>e.sub.length-(intOf i).toNat)
  case atStart=>exact⟨0,n+1,_,Jkb f (ck,cs) 1,l ++ [(ck,cs)],Np,rfl,uO,kW,Sc,Vr,Nf (K0 (Nt))⟩
  case round=>
   exact Tn
 ·have tk7:(e.kind == 7)=false:=by simpa using h7
  have hA:=hR.trans iS.out;rw [if_neg h7] at hA;have HA:=Nf hA;clear hA iS h7 zC bM hR
  go_enter Tryz.func129,Tryz.ntmps129
  go_wp2_with fail
  refine Jo fun W1 bt=>?_;have iw:Q3 Tryz.prog 81 3 .i64 okC klC W1 M n f cnt:=by rw [bt];exact HN.out.bel Jlo
  have ic:Jdf f l:=pV.out;have eR:n<=n+1:=Ua;have ez:W.grownBy W1 (some M):=by rw [bt];exact K0 Jlo
  have d0:=Na W1 (W.heap.size+1) 0 ck Ve;have d1:=Nb W1 (W.heap.size+1) 1 (.string cs) Ve;have af:W.heap.size+2<=W1.heap.size:=Dr;clear bt;have uO:=Nf iw;have kW:=Nf ic;have kX:=Nf ez;clear iw ic ez
  go_loopw [41] (fun i wr=>∃(k n2 cnt2:Nat) (f2:Int×ByteArray->Option Int) (l2:List (Int×ByteArray)),k<=e.sub.length/\i = .int .i64 k/\Hid (Q3 Tryz.prog 81 3 .i64 okC klC wr M n2 f2 cnt2)/\Hid (Jdf f2 l2)/\Hid (R=Ex.arrsL l2 e.kind e.name (ck,cs) k (e.sub.drop k))/\n2+Ex.sizeL (e.sub.drop k)<=n+e.size/\Hid (W1.grownBy wr (some M))) (fun i _=>e.sub.length-(intOf i).toNat)
  case atStart=>exact⟨0,n,cnt,f,l,Np,rfl,uO,kW,Sc,Vr,Nf (K0 (Nt))⟩
  case round=>
   exact Tn
end Go.Proofs.YtdgjplldlfeolaaGreatDoor
