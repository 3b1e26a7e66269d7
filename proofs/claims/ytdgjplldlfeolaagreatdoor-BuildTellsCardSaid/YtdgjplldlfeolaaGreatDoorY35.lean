/- Lemmas. -/
import Derived.Test.YtdgjplldlfeolaaGreatDoorMac
import Derived.Test.YtdgjplldlfeolaaGreatDoorY34
import Derived.Deep.CutRange
set_option linter.unusedVariables false
set_option linter.unusedSimpArgs false
set_option maxRecDepth 100000
set_option maxHeartbeats 64000000
namespace Go.Proofs.YtdgjplldlfeolaaGreatDoor
open Go.RowKit Go.Sort
theorem Kqx (s:ByteArray) (W:World) (hs:s.size<=maxLen) (h0:(Kdk s).2.1≠0):Calls Tryz.prog 54 #[.string s] W (Ko9 W):=by
 have pZ:=fun w=>Kjz s w hs;generalize Kdk s=S at pZ h0;obtain⟨ts,e,at0⟩:=S;unfold Kll at pZ;dsimp only at pZ h0;have he:(e != 0)=true:=Lv;clear h0
 go_enter Tryz.func54,Tryz.ntmps54
 go_wp2_with (go_at_call 16;go_loud (refine(pZ _).mono ?_;rintro r w1 ⟨⟨Al,cl,rfl,aP⟩,ac⟩))
 refine Nv (v:= .tuple #[.slice none 0 0,.int .i64 (e),.int .i64 (at0)]) Vw rfl (Ko9.fault rfl ?_);exact Jb
structure Ktw (W1 wr:World) (k:Nat) (l:List (ByteArray×Ex)) (ls:List (Option Addr×Nat)) (Al:Option Addr) (cl:Nat):Prop where
 le:l.length<=k
 ll:ls.length=l.length
 own:wr.ownsRow W1.heap.size 173 5 (.slice Al l.length cl) l.length (Kpp l ls)
 subs:Kpl W1.heap.size (.slice Al l.length cl) wr l ls
 ok:∀x∈l,x.2.right=0/\x.2.OK/\x.1.size<=4096
 bel:Below W1.heap.size W1 wr
theorem Kqy (s:ByteArray) (W:World) (hs:s.size<=maxLen) {ts:List Tk} {at0:Int} (hS:Kdk s=(ts,0,at0)) (ai:ts.length<=5000) (aw:Kge ts):Calls Tryz.prog 54 #[.string s] W (Ko9 W):=by
 have pZ:=fun w=>Kjz s w hs;rw [hS] at pZ;clear hS;unfold Kll at pZ;dsimp only at pZ;unfold maxLen at hs
 go_enter Tryz.func54,Tryz.ntmps54
 go_wp2_with (go_at_call 16;go_loud (refine(pZ _).mono ?_;rintro r w1 ⟨⟨Al,cl,rfl,aP⟩,ac⟩;have af:=ac.size;(try simp at af);have ak:=Jg ac;have bV:=lt0 W w1))
 refine Jo fun W1 bt=>?_;have fk:=Nd w1 W1 Fz;have dZ:=Nd W W1 (Jd (Jd (Jc (Nt) _) ac) fk);have htk1:Kg5 w1.heap.size W1 ts Al cl:=aP.up (Ns _) fk;have g0:=Nb W1 W.heap.size 0 (.string s) (Ja fk ((ak _ _ Uh).trans Uc));have g5:=Nb W1 w1.heap.size 0 (.slice Al ts.length cl) Ve;have yx:w1.heap.size<W1.heap.size:=Dr;have bO:=aP.1;have fG:=aP.2.1;unfold maxLen at fG;clear bt pZ ac ak fk aP af
 go_loopw [10,11] (fun o i wr=>∃(k:Nat) (l:List (ByteArray×Ex)) (ls:List (Option Addr×Nat)) (A6:Option Addr) (c6:Nat),k<=ts.length/\i = .int .i64 k/\o = .slice A6 l.length c6/\Hid (Ktw W1 wr k l ls A6 c6)) (fun _ i _=>ts.length-(intOf i).toNat)
 case atStart=>exact⟨0,[],[],none,0,Np,rfl,rfl,Nf ⟨Ns _,rfl,Nw,fun j x a h=>absurd h Uh,Uh,Nt⟩⟩
 case round=>
  obtain⟨k,l,ls,A6,c6,hk,rfl,rfl,aY⟩:=hrel;have rq:=aY.out.bel;have bu:=rq.size;have nn:=aY.out.le;have q0:=Ja rq g0;have q5:=Ja rq g5;have rj:Kg5 w1.heap.size wr ts Al cl:=htk1.up (Ns _) rq;have hyr:=lt0 w1 wr;have hyr0:=lt0 W wr
  by_cases am:k<ts.length
  ·have hki:(k:Int)<(ts.length:Int):=Ua;have hd:decide ((k:Int)<(ts.length:Int))=true:=Ui;have hx:ts[k]?=some ts[k]:=Ng am;have htko:=aw ts[k] (Nj am);generalize ts[k]=t at hx htko;have ot:=rj.get hx;obtain⟨b,off,hAl,hB,gt,⟨d0,d1,d2,d3⟩⟩:=ot;have HTK1:=Nf htk1;subst hAl;have hname:t.text.size<=4096:=htko.1;have jH:=fun(k:Nat) (m:ByteArray) W' (h:Below wr.heap.size wr W')=>Kr4 W' (rj.up (Ns _) h) (Ja h q5) k m;have jn:=fun(k:Nat) W' (h:Below wr.heap.size wr W')=>Krf (z:=W.heap.size) (s:=s) W' (rj.up (Ns _) h) (Ja h q5) (Ja h q0) k;have hmk1:=jH (k+1) ⟨#[61]⟩;have hwh1:=jn (k+1)
   push_cast at hmk1 hwh1
   clear hx htko
   cases h1:(t.kind != 1)
   ·cases hm:Kpj ts (k+1) ⟨#[61]⟩
    ·rw [hm] at hmk1;have HMK:=Nf hmk1;have HWH:=Nf hwh1;clear jH jn hmk1 hwh1 rj
     go_wp2_with (first
      | (go_at_call 89;go_loud (refine(HMK.out _ Jb).mono ?_;rintro r w2 ⟨rfl,rfl⟩))
      | (go_at_call 88;go_loud (refine(HWH.out _ Jb).mono ?_;rintro r w2 ⟨⟨n,rfl⟩,rfl⟩)))
     refine Nv (v:= .tuple #[.slice none 0 0,.int .i64 (16),.int .i64 (n)]) Vw rfl (Ko9.fault rfl ?_);exact Jd dZ (Jd rq Jb)
    ·rw [hm] at hmk1;have dz:=Kqq hm;have xn:=fun W' (h:Below wr.heap.size wr W')=>Ksc W' ((rj.up (B':=W'.heap.size) (by have:=h.size;omega) h)) Ua aw (k+2) Ua (s.size:Int)
     push_cast at xn
     unfold Krq exV at xn;have HMK:=Nf hmk1;have HEX:=Nf xn;have HMM:=Nf jH;have HWW:=Nf jn;clear jH jn hmk1 hwh1 rj xn
     go_upto_region 15 with (first
      | (go_at_call 89;go_loud (refine(HMK.out _ Jb).mono ?_;rintro r w2 ⟨rfl,rfl⟩))
      | (go_at_call 90;go_loud (refine(HEX.out _ Jb).mono ?_;rintro r w3 ⟨⟨x,n,e,m,Ax,cx,rfl,fb,hxo,hxe⟩,aM⟩;have fe:=aM.size;(try simp at fe))))
     refine Jo fun V hV=>?_;have fk:=Nd w3 V S9;have hb13:=Nd wr w3 (Jd (Jc (Nt) _) aM);have bK:=Nd wr V (Jd hb13 fk);have p1:=Nb V wr.heap.size 1 (.string t.text) (Ja fk (Ja aM Uc));have p3:=Na V wr.heap.size 3 t.pos (Ja fk (Ja aM Uc));have r0:=Na V w3.heap.size 0 x.kind Uj;have r1:=Nb V w3.heap.size 1 (.int .i32 x.n) Uj;have r2:=Nb V w3.heap.size 2 (.string x.name) Uj;have r3:=Nb V w3.heap.size 3 (.slice Ax x.sub.length cx) Uj;have mQ:w3.heap.size<V.heap.size:=Mj;have ze:wr.heap.size<w3.heap.size:=by have:=aM.size;simp at this;omega
     have hoffV:=fb.later fk;have pI:=Jd dZ (Jd rq bK);clear hV fk aM hb13 fb HMK HEX
     by_cases he:e=0
     ·subst he;obtain⟨eR,eu⟩:=hxe rfl;have hmk2:=HMM.out n ⟨#[59]⟩ V bK;have kD:=HWW.out n V bK
      cases cI:Kpj ts n ⟨#[59]⟩
      ·rw [cI] at hmk2;have HMK:=Nf hmk2;have HWH:=Nf kD;clear hmk2 kD hxe cI
       go_wp2_with (first
        | (go_at_call 89;go_loud (refine HMK.out.mono ?_;rintro r w4 ⟨rfl,rfl⟩))
        | (go_at_call 88;go_loud (refine HWH.out.mono ?_;rintro r w4 ⟨⟨n4,rfl⟩,rfl⟩)))
       refine Nv (v:= .tuple #[.slice none 0 0,.int .i64 (16),.int .i64 (n4)]) Vw rfl (Ko9.fault rfl ?_);exact pI
      ·rw [cI] at hmk2;have HMK:=Nf hmk2;have aB:=Jnc x Ax cx V hoffV.here;have sR:=Kqq cI
       by_cases hr:x.right=0
       ·rw [hr] at aB;unfold exV at aB;have HRI:=Nf aB;have HR:=Nf hr;have HOFF:=Nf hoffV;have hwl:=aY.out.own;clear hmk2 kD hxe cI aB hr hoffV
        go_wp2_with (first
         | (go_at_call 89;go_loud (refine HMK.out.mono ?_;rintro r w4 ⟨rfl,rfl⟩))
         | (go_at_call 21;go_loud (refine HRI.out.mono ?_;rintro r w4 ⟨rfl,ei⟩;have q1:=Ja ei p1;have s0:=Ja ei r0;have s1:=Ja ei r1;have s2:=Ja ei r2;have s3:=Ja ei r3;have qS:=ei.size;have ns:=lt0 wr w4;have nt:=lt0 w3 w4))
         | (at_builtin;go_loud (refine Z2 rfl (.tmp 81) (.tmp 86) 123 rfl W1.heap.size 173 _ 5 72 Tryz.underlying123 Ktm rfl Ua (.slice A6 l.length c6) l.length (Kpp l ls) w4.heap.size 1 1 (stC (t.text,x) (Ax,cx)) rfl (Js (Jy hwl (Jd bK ei))) rfl rfl (fun j u hj=>by rw [Kw];simpa [stC] using hj) (by simp [stC,Value.oneCell']) Ua Ua Ud ?_;intro v7 w7 my hg7 hv7;obtain⟨A7,c7,rfl,-,-⟩:=Jv my)))
        go_roundw
        case rel=>
         have da:Below wr.heap.size wr (w4.alloc (.cells #[.string t.text,.int .i64 x.kind,.int .i32 x.n,.string x.name,.slice Ax x.sub.length cx] 173)):=Jc (Jd bK ei) _;have aT:=Kpl.app (x:=(t.text,x)) (a:=(Ax,cx)) (m:=wr.heap.size) aY.out.subs aY.out.ll da Ua (fun b hb=>(hwl.lt b hb).2) (Ns _) ((HOFF.out.less Uh).later (Jc ei _)) hg7 hv7;refine⟨n+1,l ++ [(t.text,x)],ls ++ [(Ax,cx)],A7,c7,Ua,Uw,Uh,Nf ⟨Ui,by simp [aY.out.ll],?_,?_,fun y hy=>?_,?_⟩⟩
         ·rw [Kqf _ _ _ _ aY.out.ll];simpa using my
         ·simpa using aT
         ·rcases List.mem_append.1 hy with hy|hy
          ·exact aY.out.ok y hy
          ·rw [List.mem_singleton.1 hy];exact⟨HR.out,hxo,hname⟩
         ·exact Kou (Jd rq da) hg7 (fun b hb=>(hwl.lt b hb).1) Ud
        case measure=>simp [intOf];omega
       ·have hri:(x.right != 0)=true:=Fp;unfold exV at aB;have HRI:=Nf aB;clear hmk2 kD hxe cI aB hr
        go_wp2_with (first
         | (go_at_call 89;go_loud (refine HMK.out.mono ?_;rintro r w4 ⟨rfl,rfl⟩))
         | (go_at_call 21;go_loud (refine HRI.out.mono ?_;rintro r w4 ⟨rfl,ei⟩;have q3:=Ja ei p3;have qS:=ei.size;have ns:=lt0 wr w4)))
        go_quiet (fail)
        go_wp2_with fail
        refine Nv (v:= .tuple #[.slice none 0 0,.int .i64 (x.right),.int .i64 (t.pos)]) Vw rfl (Ko9.fault rfl ?_);exact(by first|exact J8 (Jd pI ei) _|exact Jh (Jd pI ei))
     ·have hei:(e != 0)=true:=F8;clear he hxe
      go_wp2_with fail
      refine Nv (v:= .tuple #[.slice none 0 0,.int .i64 (e),.int .i64 (m)]) Vw rfl (Ko9.fault rfl ?_);exact pI
   ·clear jH jn hmk1 hwh1 rj
    go_wp2_with fail
    go_quiet (fail)
    go_wp2_with fail
    refine Nv (v:= .tuple #[.slice none 0 0,.int .i64 (16),.int .i64 (t.pos)]) Vw rfl (Ko9.fault rfl ?_);exact(by first|exact J8 (Jd dZ (Jd rq (Jc (Nt) _))) _|exact Jh (Jd dZ (Jd rq (Jc (Nt) _))))
  ·obtain rfl:k=ts.length:=Ua;have hd:decide ((ts.length:Int)<(ts.length:Int))=false:=Uh;have ae:=aY.out.own;have bW:=Ko2.of_own ae aY.out.ll aY.out.subs;have uC:=aY.out.ok;obtain⟨A9,c9,hv9,hs9⟩:=bW;injection hv9 with e1 e2 e3;subst e1 e3;have HS9:=Nf hs9;have HOK2:=Nf uC;clear ae hs9 uC rj
   go_wp2_with fail
   refine Nv (v:= .tuple #[.slice A6 l.length c6,.int .i64 0,.int .i64 0]) Vw rfl ⟨⟨l,A6,c6,0,0,rfl,HS9.out,HOK2.out,by have:=aY.out.le;omega⟩,Jd dZ rq⟩
theorem Krg (s:ByteArray) (W:World) (hs:s.size<=maxLen):Calls Tryz.prog 54 #[.string s] W (Ko9 W):=by
 by_cases h0:(Kdk s).2.1=0
 ·obtain⟨h1,h2⟩:=Kmt s;exact Kqy s W hs (ts:=(Kdk s).1) (at0:=(Kdk s).2.2) (by rw [<-h0]) Ua h1
 ·exact Kqx s W hs h0
end Go.Proofs.YtdgjplldlfeolaaGreatDoor
