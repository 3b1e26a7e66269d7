/- Lemmas. -/
import Derived.Test.YtknfcamdfdfoeaaGreatDoorMac
import Derived.Test.YtknfcamdfdfoeaaGreatDoorZ15
import Derived.Test.YtknfcamdfdfoeaaGreatDoorZ06
import Derived.Test.YtknfcamdfdfoeaaGreatDoorZ07
import Derived.Test.YtknfcamdfdfoeaaGreatDoorZ14
import Derived.Test.YtknfcamdfdfoeaaGreatDoorZ08
import Derived.Test.YtknfcamdfdfoeaaGreatDoorZ09
set_option linter.unusedVariables false
set_option linter.unusedSimpArgs false
set_option maxRecDepth 100000
set_option maxHeartbeats 64000000
namespace Go.Proofs.YtknfcamdfdfoeaaGreatDoor
open Go.RowKit Go.Sort
theorem Jp9 (W:World) (k n:Int) (s:ByteArray):Jt W (.mk k n s []) none 0:=by
 rw [Jao];exact⟨Nat.le_refl _,U2,fun h=>absurd h (by simp [Ex.sub])⟩
theorem Jv2 (W:World):Ju W [] none 0:=⟨Nat.le_refl _,U2,fun h=>absurd h Ul⟩
theorem Jxz (l:List Va) (A:Option Addr) (cap:Nat) (hn:l.length<=1000000) (e:Ex):e.formed=true->OfP l A cap e:=by
 induction e using Ex.ind with
 | h e ih=>
 intro hf Ae ce ck cs w hg he hl;have ih':∀x∈e.sub,OfP l A cap x:=fun x hx=>ih x hx (Q9 hf x hx)
 by_cases h3:e.kind=3
 ·exact Jy4 l A cap hn e hf ih' Ae ce ck cs w hg he hl h3
 by_cases h8:e.kind=8
 ·exact Jyd l A cap hn e hf ih' Ae ce ck cs w hg he hl h8
 by_cases h9:e.kind=9
 ·exact Juj l A cap hn e hf ih' Ae ce ck cs w hg he hl h9
 by_cases bM:e.kind=10
 ·exact Jwu l A cap hn e hf ih' Ae ce ck cs w hg he hl bM
 exact Jxc l A cap hn e hf ih' Ae ce ck cs w hg he hl ⟨h3,h8,h9,bM⟩
theorem Zr (a b c:Int) (w:World):(Op.equalIn 10000 34 (.agg #[.int .i64 a,.int .i64 b,.int .i64 c]) (.agg #[.int .i64 0,.int .i64 0,.int .i64 0])).run Tryz.prog w = .ok (a == 0 && b == 0 && c == 0) w:=by
 have hS:Tryz.prog.underlying 34=some (.struct (Tryz.prog.fieldsOf 34)):=Ug;have hp:Tryz.prog.stoodInHeld 34=false:=Ug;rw [show(10000:Nat)=9999+1 from rfl,run_equalIn_agg w 9999 34 _ _ hS hp];simp only [Program.fieldsOf,Tryz.underlying34];go_simp
 by_cases h1:a=0 <;> by_cases h2:b=0 <;> by_cases h3:c=0 <;> simp [h1,h2,h3]
theorem Jmg (p:Pr) (a:PrA) (w:World) (hp:Kr w p a) (n1:p.ins.length<=1000000) (n2:p.outs.length<=1000000) (n3:p.locals.length<=1000000) (n4:p.eqs.length<=1000000) (aN:J7 p≠(0,0,0)) :
  Calls Tryz.prog 45 #[prV p a] w fun r w'=>r = .returned (fV (J7 p))/\Below w.heap.size w w':=by
 have aV:=fun W h=>Jnk p a W (hp.later h) n1 n2 n3 n4
 have aS:((J7 p).1 == 0 && (J7 p).2.1 == 0 && (J7 p).2.2 == 0)=false:=by
  exact Ub8
 have dp:∀w,(Op.equalIn 10000 34 (.agg #[.int .i64 (J7 p).1,.int .i64 (J7 p).2.1,.int .i64 (J7 p).2.2]) (.agg #[.int .i64 0,.int .i64 0,.int .i64 0])).run Tryz.prog w = .ok false w:=fun w=>by rw [Zr,aS]
 have fM:Tryz.prog.eqGuardType Tryz.prog.depth 34=false:=Ug;clear aN aS;obtain⟨A1,c1,A2,c2,A3,c3,A4,c4⟩:=a;unfold prV fV at *;dsimp only at *;generalize (J7 p).1=k1 at *;generalize (J7 p).2.1=k2 at *;generalize (J7 p).2.2=k3 at *;clear hp
 go_enter Tryz.func45,Tryz.ntmps45
 go_wp2_with (first|(go_at_call 75;refine(aV _ Jb).mono ?_;rintro r w1 ⟨rfl,ac⟩;have ak:=Jg ac;have tH:=Jf ac;have af:=ac.size;(try simp at af);(try have bV:=lt0 w w1);(try have gq:=ltA w 1 w1);(try have ow:=ltA w 2 w1);(try have ns:=lt0 wr w1);(try have nt:=ltA wr 1 w1)))
 refine bodyPost_ret (v:= .agg #[.int .i64 k1,.int .i64 k2,.int .i64 k3]) L5 rfl ⟨rfl,?_⟩;exact Km
def Yy (l:List Va):Nat->List Va->Option (Nat×Int)
 | _,[]=>none
 | k,v :: r=>if Yc l v≠0 then some (k,Yc l v) else Yy l (k+1) r
def Jcy (l:List Va) (s:ByteArray):Int×ByteArray:=match Xb l s with|some v=>(v.ck,v.cn)|none=>(0,⟨#[]⟩)
def Y7 (l:List Va):Nat->List Qe->Option (Nat×Int)
 | _,[]=>none
 | k,q :: r=>if q.e.clk l (Jcy l q.name)≠0 then some (k,q.e.clk l (Jcy l q.name)) else Y7 l (k+1) r
def Ji8 (r:Option (Nat×Int)):Int×Int×Int:=match r with|some (k,e)=>(3,(k:Int),e)|none=>(0,0,0)
def Jgx (p:Pr) (r:Option (Nat×Int)):Int×Int×Int:=match r with|some (k,e)=>(2,(k:Int),e)|none=>Ji8 (Y7 (Je p) 0 p.eqs)
def Qg (p:Pr):Int×Int×Int:=if J7 p≠(0,0,0) then J7 p else Jgx p (Yy (Je p) 0 (Je p))
theorem Jlm {p:Pr} (h:J7 p=(0,0,0)):K5 p=0/\(Je p).length<=24:=by
 unfold J7 at h
 by_cases he:K5 p≠0
 ·rw [if_pos he] at h;simp at h
 rw [if_neg he] at h
 by_cases hb:8<p.ins.length\/8<p.outs.length\/24<(Je p).length
 ·rw [if_pos hb] at h;simp at h
 exact⟨Decidable.not_not.1 he,Ua⟩
theorem Jl3 (p:Pr) (a:PrA) (w:World) (hg:Ql w) (hp:Kr w p a) (n1:p.ins.length<=1000000) (n2:p.outs.length<=1000000) (n3:p.locals.length<=1000000) (n4:p.eqs.length<=1000000) (aN:J7 p=(0,0,0)) :
  Calls Tryz.prog 45 #[prV p a] w fun r w'=>r = .returned (fV (Qg p))/\Below w.heap.size w w':=by
 have dD:Qg p=Jgx p (Yy (Je p) 0 (Je p)):=by unfold Qg;rw [if_neg (by rw [aN];simp)]
 obtain⟨lG,hL24⟩:=Jlm aN;have dn:=(X4 (Z5 lG)).2.2.2.2;have aV:=fun W h=>Jnk p a W (hp.later h) n1 n2 n3 n4;have aJ:=fun W h=>Jcv p a W (hp.later h) n1 n2 n3;rw [aN] at aV;have dp:∀w,(Op.equalIn 10000 34 (.agg #[.int .i64 0,.int .i64 0,.int .i64 0]) (.agg #[.int .i64 0,.int .i64 0,.int .i64 0])).run Tryz.prog w = .ok true w:=fun w=>So;have fM:Tryz.prog.eqGuardType Tryz.prog.depth 34=false:=Ug;clear aN lG;have jQ:=Lib.hid dD;clear dD;have jR:=Lib.hid dn;clear dn;have bT:=hp.eqs;have oM:=hp.eqs.len;obtain⟨A1,c1,A2,c2,A3,c3,A4,c4⟩:=a;unfold maxLen at oM;unfold prV fV at *;dsimp only at *;obtain⟨tC,tD⟩:=oM;have cM:Jgx p none=Ji8 (Y7 (Je p) 0 p.eqs):=rfl;have tE:=Lib.hid cM;clear cM;generalize hL:Je p=L at *;clear hL hp
 go_enter Tryz.func45,Tryz.ntmps45
 go_wp2_with (first|(go_at_call 75;refine(aV _ Jb).mono ?_;rintro r wa ⟨rfl,aA⟩;have aW:=Jg aA;have bS:=Jf aA;have cN:w.heap.size+2<=wa.heap.size:=Ut;have dG:w.heap.size<wa.heap.size:=Ua;have aX:w.heap.size+1<wa.heap.size:=Ua)|(go_at_call 42;refine(aJ _ Jb).mono ?_;rintro r wb ⟨⟨A,cap,rfl,ae⟩,aH⟩;have el:=Jg aH;have mJ:=Jf aH;have dH:=aH.size;(try simp at dH);have cA:w.heap.size<wb.heap.size:=Ua;have ep:w.heap.size+1<wb.heap.size:=Ua;have cR:=Ju.of_own ae))
 refine Jo fun W0 ag=>?_;have ax:Below w.heap.size w W0:=Uo;have bD:w.heap.size<W0.heap.size:=Lk;have af:w.heap.size+1<W0.heap.size:=Lk;have x4:W0.cell? ⟨w.heap.size,4,none⟩=some (.slice A4 p.eqs.length c4):=Uc;have f0:W0.cell? ⟨w.heap.size+1,0,none⟩=some (.int .i64 0):=Uc;have f1:W0.cell? ⟨w.heap.size+1,1,none⟩=some (.int .i64 0):=Uc;have f2:W0.cell? ⟨w.heap.size+1,2,none⟩=some (.int .i64 0):=Uc;have z0:W0.frozen? ⟨w.heap.size+1,0,none⟩=false:=Uc;have z1:W0.frozen? ⟨w.heap.size+1,1,none⟩=false:=Uc;have z2:W0.frozen? ⟨w.heap.size+1,2,none⟩=false:=Uc;have bE:Ju W0 L A cap:=by rw [ag];exact cR
 clear ag;replace bT:=bT.later ax;replace hg:=hg.later ax;clear aV aJ dp fM ae cR aW el bS mJ
 go_loopw [23] (fun i wr=>∃k:Nat,k<=L.length/\i = .int .i64 k/\Yy L k (L.drop k)=Yy L 0 L/\Below W0.heap.size W0 wr) (fun i _=>L.length-(intOf i).toNat)
 case atStart=>exact⟨0,Nat.zero_le _,rfl,rfl,Below.refl _ _⟩
 case round=>
  obtain⟨k,hk,rfl,aa,ab⟩:=hrel;have hc:=Jg ab;have eh:=Jf ab;have bu:=ab.size;have fF:w.heap.size<wr.heap.size:=Ua;have fa:w.heap.size+1<wr.heap.size:=Ua
  by_cases am:k<L.length
  ·have so:=fun(x:Va) W h=>Jpa L A cap x W ((hg.later ab).later h) ((bE.later ab).later h) Ua;obtain⟨x,hx,-,hd⟩:=Kl am;obtain⟨b,off,rfl,aH,⟨d0,d1,d2,d3⟩⟩:=(bE.later ab).get hx;rw [hd,Yy] at aa;have dy:=fun W h=>so x W h;clear so;unfold vaV at dy;clear hd hx;generalize Yc L x=de at *
   by_cases eD:de≠0
   ·rw [if_pos eD] at aa;have hv:Qg p=(2,(k:Int),de):=G0;have t1:(de != 0)=true:=G8;clear aa eD;have HV:=Lib.hid hv;clear hv
    go_wp2_with (first|(go_at_call 76;refine(dy _ Jb).mono ?_;rintro r w1 ⟨rfl,ac⟩;have ak:=Jg ac;have db:=Jf ac;have eI:=ac.size;(try simp at eI);have bV:w.heap.size<w1.heap.size:=Ua;have gq:w.heap.size+1<w1.heap.size:=Ua))
    refine bodyPost_ret (v:= .agg #[.int .i64 (2),.int .i64 ((k:Int)),.int .i64 (de)]) L5 rfl ⟨Vp,?_⟩;exact Km
   ·rw [if_neg eD] at aa;have t1:(de != 0)=false:=G8;have HR:=Lib.hid aa;clear aa eD
    go_wp2_with (first|(go_at_call 76;refine(dy _ Jb).mono ?_;rintro r w1 ⟨rfl,ac⟩;have ak:=Jg ac;have db:=Jf ac;have eI:=ac.size;(try simp at eI);have bV:w.heap.size<w1.heap.size:=Ua;have gq:w.heap.size+1<w1.heap.size:=Ua))
    exact Uc5
  obtain rfl:k=L.length:=Ua;rw [List.drop_length,Yy] at aa;have fC:Qg p=Ji8 (Y7 L 0 p.eqs):=by rw [jQ.out,<-aa];exact tE.out
  have ku:=Lib.hid fC;clear fC aa
  go_wp2_with fail
  clear hc eh bu fF fa
  go_loopw [40] (fun i wr=>∃k:Nat,k<=p.eqs.length/\i = .int .i64 k/\Y7 L k (p.eqs.drop k)=Y7 L 0 p.eqs/\Below W0.heap.size W0 wr) (fun i _=>p.eqs.length-(intOf i).toNat)
  case atStart=>exact⟨0,Nat.zero_le _,rfl,rfl,ab⟩
  case round=>
   clear ab;obtain⟨k,hk,rfl,aa,ab⟩:=hrel;have hc:=Jg ab;have eh:=Jf ab;have bu:=ab.size;have fF:w.heap.size<wr.heap.size:=Ua;have fa:w.heap.size+1<wr.heap.size:=Ua
   by_cases am:k<p.eqs.length
   ·obtain⟨q,hx,-,hd⟩:=Kl am;obtain⟨b,off,B1,n1,B2,n2,rfl,aH,⟨g0,g1,g2,g3,g4,g5,g6,g7,g8,g9,s1,s2⟩⟩:=(bT.later ab).get hx;rw [hd,Y7] at aa
    have hf:q.e.formed=true:=by
     have:=jR.out q (List.mem_of_getElem? hx);simp only [eqB,Bool.and_eq_true] at this;exact(Ex.right_zero.1 (by simpa using this.1.2)).2.2
    have ap:=fun W h=>Jg9 L A cap q.name W ((bE.later ab).later h) Ua;have ix:=fun ck cs W h=>Jxz L A cap Ua q.e hf B2 n2 ck cs W ((hg.later ab).later h) (s2.later h) ((bE.later ab).later h);unfold exV at ix;clear hd hx hf;have bO:Jcy L q.name=Jcy L q.name:=rfl;rw (occs:= .pos [2]) [Jcy] at bO
    cases eB:Xb L q.name with
    | none=>
     rw [eB] at bO ap;dsimp only at bO;rw [bO] at aa;have ix:=ix 0 ⟨#[]⟩;unfold fcV vaV Jh8 at ap;dsimp only at ap;clear bO eB;generalize q.e.clk L (0,⟨#[]⟩)=de at *
     by_cases eD:de≠0
     ·exact Bq
     ·exact Bz
    | some v=>
     rw [eB] at bO ap;dsimp only at bO;rw [bO] at aa;have ix:=ix v.ck v.cn;unfold fcV vaV at ap;dsimp only at ap;clear bO eB;generalize q.e.clk L (v.ck,v.cn)=de at *
     by_cases eD:de≠0
     ·exact Bq
     ·exact Bz
   obtain rfl:k=p.eqs.length:=Ua;rw [List.drop_length,Y7] at aa;have hv:Qg p=(0,0,0):=Fk;clear aa;have HV:=Lib.hid hv;clear hv
   go_wp2_with fail
   refine bodyPost_ret (v:= .agg #[.int .i64 (0),.int .i64 (0),.int .i64 (0)]) L5 rfl ⟨Vp,?_⟩;exact Km
theorem Jhx (p:Pr) (a:PrA) (w:World) (hg:Ql w) (hp:Kr w p a) (n1:p.ins.length<=1000000) (n2:p.outs.length<=1000000) (n3:p.locals.length<=1000000) (n4:p.eqs.length<=1000000) :
  Calls Tryz.prog 45 #[prV p a] w fun r w'=>r = .returned (fV (Qg p))/\Below w.heap.size w w':=by
 by_cases aN:J7 p=(0,0,0)
 ·exact Jl3 p a w hg hp n1 n2 n3 n4 aN
 ·have hv:Qg p=J7 p:=by unfold Qg;rw [if_pos aN]
  rw [hv];exact Jmg p a w hp n1 n2 n3 n4 aN
end Go.Proofs.YtknfcamdfdfoeaaGreatDoor
namespace Go.Proofs.YtknfcamdfdfoeaaGreatDoor
open Go.RowKit
theorem Jbk {l:List ByteArray} {s:ByteArray} : Ka l s=true<->s∈l:=by
 unfold Ka;rw [List.any_eq_true]
 constructor
 ·rintro⟨x,hx,h⟩;rw [Zf] at h;rw [<-h];exact hx
 ·intro h;exact⟨s,h,by rw [Zf]⟩
theorem Jb5 {l:List ByteArray} {s:ByteArray} : Ka l s=false<->s ∉ l:=by
 rw [<-Bool.not_eq_true,Jbk]
def Jbq (l:List Qe):List ByteArray:=(l.filter (fun q=>q.delay != 0)).map (·.name)
def Yn (l:List Qe):Nat:=(l.filter (fun q=>q.delay == 0)).length
theorem Jpy (l:List Qe) (q:Qe):Jbq (l ++ [q])=if (q.delay != 0)=true then Jbq l ++ [q.name] else Jbq l:=by
 unfold Jbq;rw [List.filter_append]
 cases h:q.delay != 0 <;> simp [h]
theorem Js8 (l:List Qe) (q:Qe):Yn (l ++ [q])=if (q.delay != 0)=true then Yn l else Yn l+1:=by
 unfold Yn;rw [List.filter_append]
 by_cases h:q.delay=0 <;> simp [h]
theorem Jvy (l:List Qe):Yn l<=l.length:=List.length_filter_le _ _
theorem Jdq {l:List Qe} {s:ByteArray} : s∈Jbq l<->∃q∈l,q.delay≠0/\q.name=s:=by
 unfold Jbq;rw [List.mem_map]
 constructor
 ·rintro⟨q,hq,rfl⟩;rw [List.mem_filter] at hq;exact⟨q,hq.1,by simpa using hq.2,rfl⟩
 ·rintro⟨q,hq,hd,rfl⟩;exact⟨q,by rw [List.mem_filter];exact⟨hq,G9⟩,rfl⟩
def Yj (p:Pr):List ByteArray:=p.ins.map (·.name) ++ Jbq p.eqs
def Jbo (p:Pr):List Int×(Int×Int×Int):=Jfk (ofR (Je p)) p.eqs (Yn p.eqs) (Yn p.eqs) (Yj p) []
def Yt:Nat->(ByteArray->Option Int)->Nat->List Qe->(ByteArray->Option Int)×Nat
 | _,f,c,[]=>(f,c)
 | k,f,c,q :: r=>if (q.delay == 0)=true then Yt (k+1) (upd f q.name (k:Int)) (if (f q.name).isSome then c else c+1) r else Yt (k+1) f c r
theorem Jim:∀(l:List Qe) (k:Nat) (f:ByteArray->Option Int) (c:Nat),l.Pairwise (fun a b=>a.name≠b.name)->(∀q∈l,f q.name=none)->
  (∀s,(∀q∈l,q.delay=0->q.name≠s)->(Yt k f c l).1 s=f s)/\(∀(i:Nat) (q:Qe),l[i]?=some q->q.delay=0->(Yt k f c l).1 q.name=some ((k+i:Nat):Int))/\(Yt k f c l).2=c+Yn l
 | [],k,f,c,_,_=>⟨fun s _=>rfl,Ul,by simp [Yt,Yn]⟩
 | q :: r,k,f,c,hp,hf=>by
  obtain⟨ii,gL⟩:=List.pairwise_cons.1 hp
  have oF:∀s,s≠q.name->upd f q.name (k:Int) s=f s:=by
   intro s hs;unfold upd;rw [if_neg];intro hd;exact hs (by ext1;exact hd)
  have xi:upd f q.name (k:Int) q.name=some (k:Int):=by unfold upd;rw [if_pos rfl]
  rw [Yt]
  by_cases hd:q.delay=0
  ·rw [if_pos G9,hf q Ul];obtain⟨a1,a2,a3⟩:=Jim r (k+1) (upd f q.name (k:Int)) (c+1) gL (fun x hx=>by rw [oF _ (fun e=>ii x hx e.symm)];exact hf x Fz);refine⟨fun s hs=>?_,fun i x hi hx=>?_,?_⟩
   ·rw [show(if (none:Option Int).isSome=true then c else c+1)=c+1 from rfl,a1 s fun x hx rd=>hs x Fz rd];exact oF s fun e=>hs q Ul hd e.symm
   ·rw [show(if (none:Option Int).isSome=true then c else c+1)=c+1 from rfl]
    cases i with
    | zero=>
     obtain rfl:q=x:=Mf;rw [a1 q.name fun y hy _ e=>ii y hy e.symm,xi];rfl
    | succ i=>
     rw [a2 i x Mf hx]
     congr 2;omega
   ·rw [show(if (none:Option Int).isSome=true then c else c+1)=c+1 from rfl,a3];have:Yn (q :: r)=Yn r+1:=by unfold Yn;rw [List.filter_cons,if_pos G9];rfl
    exact Ua
  ·rw [if_neg G9];obtain⟨a1,a2,a3⟩:=Jim r (k+1) f c gL (fun x hx=>hf x Fz);refine⟨fun s hs=>a1 s fun x hx rd=>hs x Fz rd,fun i x hi hx=>?_,?_⟩
   ·cases i with
    | zero=>
     obtain rfl:q=x:=Mf;exact absurd hx hd
    | succ i=>
     rw [a2 i x Mf hx]
     congr 2;omega
   ·rw [a3];have:Yn (q :: r)=Yn r:=by unfold Yn;rw [List.filter_cons,if_neg G9]
    exact Ua
namespace Ex
theorem Jmx {l:List Va} {x:Ex} {r:List Ex} (h:(typL l (x :: r)).2=0):(typ l x).2=0/\(typL l r).2=0:=by
 simp only [typL] at h
 by_cases hx:(typ l x).2=0
 ·rw [if_pos hx] at h;refine⟨hx,?_⟩;unfold Ku at h
  by_cases hr:(typL l r).2=0
  ·exact hr
  ·rw [if_neg hr] at h;exact absurd h hr
 ·rw [if_neg hx] at h;exact absurd h hx
theorem Jh2 {L:List Va} : ∀(r:List Ex),(∀x∈r,(typ L x).2=0->∀l s,s∈named l x->s∈l\/(K7 L s).2=true)->(typL L r).2=0->∀l s,s∈namedL l r->s∈l\/(K7 L s).2=true
 | [],_,_,l,s,hs=> .inl (by simpa [namedL] using hs)
 | x :: r,h,ht,l,s,hs=>by
  obtain⟨h1,h2⟩:=Jmx ht;rw [namedL] at hs
  rcases Jh2 r (fun y hy=>h y F0) h2 _ s hs with h3|h3
  ·exact h x Ul h1 l s h3
  ·exact .inr h3
theorem named_found {L:List Va} (e:Ex):(typ L e).2=0->∀l s,s∈named l e->s∈l\/(K7 L s).2=true:=by
 induction e using ind with
 | h e ih=>
  intro ht l s hs;rw [typ_eq] at ht
  by_cases hr:(typL L e.sub).2=0
  ·rw [if_pos hr] at ht;rw [named_eq] at hs
   rcases Jh2 e.sub ih hr _ s hs with h1|h1
   ·unfold Yw at h1
    by_cases he:e.name.toList.isEmpty=true
    ·rw [if_pos he] at h1;exact .inl h1
    ·rw [if_neg he] at h1
     by_cases hh:Ka l e.name=true
     ·rw [if_pos hh] at h1;exact .inl h1
     ·rw [if_neg hh] at h1
      rcases List.mem_append.1 h1 with h2|h2
      ·exact .inl h2
      ·obtain rfl:s=e.name:=Lg
       right
       unfold Y2 at ht
       cases hf:(K7 L e.name).2
       ·rw [if_pos ⟨Ta,hf⟩] at ht;exact absurd ht Ux
       ·exact Gd
   ·exact .inr h1
  ·rw [if_neg hr] at ht;exact absurd ht hr
end Ex
theorem Jiq {L:List Va} {e:Ex} (h:(e.typ L).2=0) {s:ByteArray} (hs:s∈Kx e):∃v∈L,v.name=s:=by
 have hf:(K7 L s).2=true:=by
  unfold Kx at hs
  split at hs
  ·simp at hs
  ·rcases Ex.named_found e h [] s hs with h1|h1
   ·simp at h1
   ·exact h1
 unfold K7 at hf
 cases hv:Qi L s with
 | none=>rw [hv] at hf;simp at hf
 | some j=>
  obtain⟨k,v,_,hk,hn⟩:=Zi hv;exact⟨v,List.mem_of_getElem? hk,hn⟩
theorem Xp {p:Pr} (h:J7 p=(0,0,0)):Qw p=true/\(∀(i j:Nat) (u v:Va),(Je p)[i]?=some u->(Je p)[j]?=some v->u.name=v.name->i=j)/\∀q∈p.eqs,(q.e.typ (Je p)).2=0:=by
 unfold J7 at h
 by_cases he:K5 p≠0
 ·rw [if_pos he] at h;simp at h
 rw [if_neg he] at h
 by_cases hb:8<p.ins.length\/8<p.outs.length\/24<(Je p).length
 ·rw [if_pos hb] at h;simp at h
 rw [if_neg hb] at h;have jn:=Z5 (Decidable.not_not.1 he);unfold Jhl at h
 cases hd:Jah (Je p) 0 (Je p) with
 | some k=>rw [hd] at h;simp at h
 | none=>
 rw [hd] at h;simp only at h;unfold Jkn at h
 cases hq:(Zy (Je p) p.ins.length 0 (fun _=>none) p.eqs).1 with
 | some k=>rw [hq] at h;simp at h
 | none=>
 have re:=Jg7 _ _ hd;refine⟨jn,fun i j u v hi hj hn=>?_,fun q kB=>?_⟩
 ·have h1:=re i u hi;have h2:=re j v hj;rw [hn,h2] at h1;exact Ua
 ·obtain⟨d',hd'⟩:=(Jfq _ _ _ hq).2.1 q kB;obtain⟨j,_,_,_,h4,_⟩:=Jhb hd';exact h4
theorem Jjd {L:List Va} : ∀(r:List Va) (k:Nat),Yy L k r=none->∀v∈r,Yc L v=0
 | [],_,_,v,hv=>by simp at hv
 | u :: r,k,h,v,hv=>by
  rw [Yy] at h
  by_cases hc:Yc L u≠0
  ·rw [if_pos hc] at h;cases h
  ·rw [if_neg hc] at h
   rcases List.mem_cons.1 hv with rfl|hv
   ·exact Decidable.not_not.1 hc
   ·exact Jjd r (k+1) h v hv
theorem Xk {p:Pr} (h:Qg p=(0,0,0)):J7 p=(0,0,0)/\∀v∈Je p,Yc (Je p) v=0:=by
 unfold Qg at h
 by_cases hc:J7 p≠(0,0,0)
 ·rw [if_pos hc] at h;exact absurd h hc
 rw [if_neg hc] at h;refine⟨Decidable.not_not.1 hc,?_⟩;unfold Jgx at h
 cases hv:Yy (Je p) 0 (Je p) with
 | some k=>rw [hv] at h;simp at h
 | none=>exact Jjd _ _ hv
theorem Jpm {s:ByteArray} : ∀ {r:List Qe} {q:Qe},q∈r->q.name=s->1<=cnt s r
 | [],q,h,_=>Lt
 | x :: r,q,h,hn=>by
  rw [cnt]
  rcases List.mem_cons.1 h with rfl|h
  ·rw [if_pos hn];omega
  ·have:=Jpm h hn;omega
theorem Jix:∀(l:List Qe),(∀q∈l,cnt q.name l<=1)->l.Pairwise (fun a b=>a.name≠b.name)
 | [],_=>List.Pairwise.nil
 | q :: r,h=>by
  refine List.pairwise_cons.2 ⟨fun b hb hn=>?_,Jix r fun x hx=>?_⟩
  ·have h1:=h q Ul;rw [cnt,if_pos rfl] at h1;have:=Jpm hb hn.symm;exact Ua
  ·have h1:=h x Fz;rw [cnt] at h1;exact Ua
theorem Jmb {l:List Qe} (h:l.Pairwise (fun a b=>a.name≠b.name)) {i j:Nat} {a b:Qe} (hi:l[i]?=some a) (hj:l[j]?=some b) (hn:a.name=b.name):i=j:=by
 rw [List.pairwise_iff_getElem] at h;obtain⟨dN,dR⟩:=List.getElem?_eq_some_iff.1 hi;obtain⟨hj1,hj2⟩:=List.getElem?_eq_some_iff.1 hj
 rcases Nat.lt_trichotomy i j with am|he|am
 ·exact absurd (by rw [dR,hj2];exact hn) (h i j dN hj1 am)
 ·exact he
 ·exact absurd (by rw [dR,hj2];exact hn.symm) (h j i hj1 dN am)
theorem Jbe {p:Pr} (h:J7 p=(0,0,0)):p.eqs.Pairwise (fun a b=>a.name≠b.name)/\(∀q∈p.eqs,q.name ∉ p.ins.map (·.name))/\∀v∈Je p,v.name∈p.ins.map (·.name)\/∃q∈p.eqs,q.name=v.name:=by
 obtain⟨_,hb,_⟩:=Jyb h
 have nj:∀q∈p.eqs,∃(j:Nat) (v:Va),(Je p)[j]?=some v/\v.name=q.name:=by
  intro q hq;obtain⟨j,hj⟩:=Jf5 h q hq;obtain⟨k,v,_,hk,hn⟩:=Zi hj;exact⟨k,v,hk,hn⟩
 refine⟨Jix _ fun q hq=>?_,fun q hq hm=>?_,fun v hv=>?_⟩
 ·obtain⟨j,v,hj,hn⟩:=nj q hq;rw [<-hn,hb j v hj]
  split <;> omega
 ·rw [List.mem_map] at hm;obtain⟨v,hv,hn⟩:=hm;obtain⟨i,hi⟩:=List.getElem?_of_mem hv;have am:i<p.ins.length:=(List.getElem?_eq_some_iff.1 hi).1
  have dR:(Je p)[i]?=some v:=by
   unfold Je;rw [List.append_assoc,List.getElem?_append_left am];exact hi
  have:=hb i v dR;rw [if_pos am] at this;have h2:=Jpm hq hn.symm;exact Ua
 ·obtain⟨i,hi⟩:=List.getElem?_of_mem hv
  by_cases am:i<p.ins.length
  ·left
   have:p.ins[i]?=some v:=by
    unfold Je at hi;rw [List.append_assoc,List.getElem?_append_left am] at hi;exact hi
   exact List.mem_map.2 ⟨v,List.mem_of_getElem? this,rfl⟩
  ·right
   have h1:=hb i v hi;rw [if_neg am] at h1;refine Classical.byContradiction fun oG=>?_;have:=Jkj (s:=v.name) (r:=p.eqs) fun q hq hn=>oG ⟨q,hq,hn⟩;exact Ua
theorem Jnr {s:ByteArray} : ∀(L:List Va) (c:Int×ByteArray),(∀v∈L,v.name≠s)->L.foldl (fun c v=>if s.data=v.name.data then(v.ck,v.cn) else c) c=c
 | [],c,_=>rfl
 | v :: L,c,h=>by
  rw [List.foldl_cons,if_neg,Jnr L c fun u hu=>h u Sw];intro hd;exact h v Ul (by ext1;exact hd.symm)
theorem Jm7 {s:ByteArray} : ∀(L:List Va) (c:Int×ByteArray),(∀(i j:Nat) (u v:Va),L[i]?=some u->L[j]?=some v->u.name=v.name->i=j)->L.foldl (fun c v=>if s.data=v.name.data then(v.ck,v.cn) else c) c=match Xb L s with|some v=>(v.ck,v.cn)|none=>c
 | [],c,_=>rfl
 | v :: L,c,h=>by
  have h':∀(i j:Nat) (u x:Va),L[i]?=some u->L[j]?=some x->u.name=x.name->i=j:=fun i j u x hi hj hn=>by
   have:=h (i+1) (j+1) u x Mf Sg hn;exact Ua
  rw [List.foldl_cons,Xb]
  by_cases hs:v.name=s
  ·rw [if_pos (by rw [hs]),if_pos (by rw [Zf];exact hs),Jnr];intro u hu hn;obtain⟨i,hi⟩:=List.getElem?_of_mem hu;have:=h 0 (i+1) v u rfl Mf (by rw [hs,hn]);exact Ua
  ·rw [if_neg (fun hd=>hs (by ext1;exact hd.symm)),if_neg (by rw [Zf];exact hs),Jm7 L c h']
theorem Jdd {v:Va} {b:Bool} (h:Ke v b=true):(v.ck=0/\v.cn.toList.isEmpty=true)\/(v.ck≠0/\v.cn.toList.isEmpty=false):=by
 simp only [Ke,Bool.and_eq_true] at h;have h3:=h.2
 by_cases h0:v.ck=0
 ·rw [if_pos h0] at h3;exact .inl ⟨h0,h3⟩
 ·rw [if_neg h0] at h3
  by_cases h1:v.ck=1\/v.ck=2
  ·rw [if_pos h1,Bool.and_eq_true] at h3;exact .inr ⟨h0,Jbx h3.2⟩
  ·rw [if_neg h1] at h3;simp at h3
theorem Jsf {p:Pr} (h:Qw p=true):∀v∈Je p,(v.ck=0/\v.cn.toList.isEmpty=true)\/(v.ck≠0/\v.cn.toList.isEmpty=false):=by
 simp only [Qw,Bool.and_eq_true,List.all_eq_true] at h;intro v hv;simp only [Je,List.mem_append] at hv
 rcases hv with (hv|hv)|hv
 ·exact Jdd (h.1.1.1.2 v hv)
 ·exact Jdd (h.1.1.2 v hv)
 ·exact Jdd (h.1.2 v hv)
theorem Ja3 {p:Pr} (h:Qg p=(0,0,0)) {q:Qe} (hq:q∈p.eqs):∃v∈Je p,Xb (Je p) q.name=some v/\v.name=q.name/\J9 (Je p) q.name=(v.ck,v.cn)/\((v.ck=0/\v.cn.toList.isEmpty=true)\/(v.ck≠0/\v.cn.toList.isEmpty=false/\∃u∈Je p,u.name=v.cn)):=by
 obtain⟨hc,dy⟩:=Xk h;obtain⟨jn,gG,htyp⟩:=Xp hc;obtain⟨j,hj⟩:=Jf5 hc q hq;obtain⟨k,v,_,hk,hf⟩:=Jgq _ _ 0 j hj;obtain⟨hm,hn⟩:=Jem hf;have eu:v.name=q.name:=by rw [<-Zf,beq_iff_eq];exact hn
 refine⟨v,hm,hf,eu,?_,?_⟩
 ·unfold J9;rw [Jm7 _ _ gG,hf]
 ·rcases Jsf jn v hm with h1|⟨h1,h2⟩
  ·exact .inl h1
  ·refine .inr ⟨h1,h2,?_⟩;have hd:=dy v hm;unfold Yc at hd;have aN:¬K9 v.ck v.cn 0 ⟨#[]⟩=true:=fun e=>h1 (Jdg.1 e).1;rw [if_neg aN] at hd
   cases hu:Xb (Je p) v.cn with
   | none=>rw [hu] at hd;simp at hd
   | some u=>
    obtain⟨hu1,hu2⟩:=Jem hu;exact⟨u,hu1,by rw [<-Zf,beq_iff_eq];exact hu2⟩
theorem Jui {p:Pr} (h:Qg p=(0,0,0)) {q:Qe} (hq:q∈p.eqs) (R:List ByteArray):(Z1 (Je p) q).all (Ka R)=(ofR (Je p) q).all (Ka R):=by
 obtain⟨v,hm,hf,hn,bO,nk⟩:=Ja3 h hq;unfold Z1 ofR;rw [bO,hf];dsimp only;unfold Yw
 rcases nk with ⟨h1,h2⟩|⟨h1,h2,_⟩
 ·rw [if_pos h1,if_pos h2]
 ·rw [if_neg h1,h2,if_neg Ul]
  by_cases hh:Ka (Kx q.e) v.cn=true
  ·rw [if_pos hh,List.all_append,Bool.eq_iff_iff];simp only [Bool.and_eq_true,List.all_eq_true];refine⟨fun a=>a.1,fun a=>⟨a,fun s hs=>?_⟩⟩;obtain rfl:s=v.cn:=Mx;exact a _ (Jbk.1 hh)
  ·rw [if_neg hh]
theorem Jjh {p:Pr} (h:Qg p=(0,0,0)) {q:Qe} (hq:q∈p.eqs) {s:ByteArray} (hs:s∈Z1 (Je p) q):∃v∈Je p,v.name=s:=by
 obtain⟨v,hm,hf,hn,bO,nk⟩:=Ja3 h hq;have ht:=(Xp (Xk h).1).2.2 q hq;unfold Z1 at hs;rw [bO] at hs;dsimp only at hs
 rcases nk with ⟨h1,h2⟩|⟨h1,h2,u,hu,gG⟩
 ·rw [if_pos h1] at hs;exact Jiq ht hs
 ·rw [if_neg h1] at hs
  rcases List.mem_append.1 hs with h3|h3
  ·exact Jiq ht h3
  ·obtain rfl:s=v.cn:=Sz;exact⟨u,hu,gG⟩
theorem Jsg {p:Pr} (h:J7 p=(0,0,0)):(∀(i:Nat) (q:Qe),p.eqs[i]?=some q->((Yt 0 (fun _=>none) 0 p.eqs).1 q.name=some (i:Int)<->Ka (Yj p) q.name=false))/\
  (∀v∈Je p,((Yt 0 (fun _=>none) 0 p.eqs).1 v.name).isSome=!Ka (Yj p) v.name)/\(Yt 0 (fun _=>none) 0 p.eqs).2=Yn p.eqs:=by
 obtain⟨xj,dV,dE⟩:=Jbe h;obtain⟨a1,a2,a3⟩:=Jim p.eqs 0 (fun _=>none) 0 xj (fun _ _=>rfl);generalize Yt 0 (fun _=>none) 0 p.eqs=W at *
 have dS:∀(i:Nat) (q:Qe),p.eqs[i]?=some q->q.delay=0->W.1 q.name=some (i:Int)/\Ka (Yj p) q.name=false:=by
  intro i q hi hd;refine⟨by rw [a2 i q hi hd,Nat.zero_add],?_⟩;rw [Jb5];unfold Yj;rw [List.mem_append,not_or];refine⟨dV q (List.mem_of_getElem? hi),fun hm=>?_⟩;obtain⟨x,hx,rd,xm⟩:=Jdq.1 hm;obtain⟨j,hj⟩:=List.getElem?_of_mem hx;obtain rfl:=Jmb xj hj hi xm;rw [hi] at hj;obtain rfl:q=x:=by injection hj
  exact rd hd
 have ek:∀(i:Nat) (q:Qe),p.eqs[i]?=some q->q.delay≠0->W.1 q.name=none/\Ka (Yj p) q.name=true:=by
  intro i q hi hd;refine⟨?_,?_⟩
  ·rw [a1 q.name fun x hx rd hn=>?_];obtain⟨j,hj⟩:=List.getElem?_of_mem hx;obtain rfl:=Jmb xj hj hi hn;rw [hi] at hj;obtain rfl:q=x:=by injection hj
   exact hd rd
  ·rw [Jbk];unfold Yj;rw [List.mem_append];exact .inr (Jdq.2 ⟨q,List.mem_of_getElem? hi,hd,rfl⟩)
 refine⟨fun i q hi=>?_,fun v hv=>?_,by rw [a3];omega⟩
 ·by_cases hd:q.delay=0
  ·obtain⟨h1,h2⟩:=dS i q hi hd;rw [h1,h2];simp
  ·obtain⟨h1,h2⟩:=ek i q hi hd;rw [h1,h2];simp
 ·rcases dE v hv with hm|⟨q,hq,hn⟩
  ·rw [a1 v.name fun x hx _ hn=>dV x hx (by rw [hn];exact hm)];have:Ka (Yj p) v.name=true:=by rw [Jbk];unfold Yj;exact List.mem_append.2 (.inl hm)
   rw [this];rfl
  ·obtain⟨i,hi⟩:=List.getElem?_of_mem hq;rw [<-hn]
   by_cases hd:q.delay=0
   ·obtain⟨h1,h2⟩:=dS i q hi hd;rw [h1,h2];rfl
   ·obtain⟨h1,h2⟩:=ek i q hi hd;rw [h1,h2];rfl
def Jdx (p:Pr):List Int×(Int×Int×Int):=Jj9 (Z1 (Je p)) p.eqs (Yt 0 (fun _=>none) 0 p.eqs).2 (Yt 0 (fun _=>none) 0 p.eqs).1 (Yt 0 (fun _=>none) 0 p.eqs).2 []
theorem Jtf {p:Pr} (h:Qg p=(0,0,0)):Jdx p=Jbo p:=by
 obtain⟨h1,h2,h3⟩:=Jsg (Xk h).1;unfold Jdx Jbo;rw [h3];refine Jue (fun q hq R=>Jui h hq R) (Yn p.eqs) _ _ _ _ Ul h1 fun q hq s hs=>?_;obtain⟨v,hv,rfl⟩:=Jjh h hq hs;exact h2 v hv
theorem Jmi {α:Type} : ∀(l m:List α),l.Nodup->(∀x∈l,x∈m)->l.length<=m.length
 | [],m,_,_=>Nat.zero_le _
 | x :: l,m,hn,h=>by
  obtain⟨s,t,rfl⟩:=List.append_of_mem (h x Ul);obtain⟨h1,h2⟩:=List.nodup_cons.1 hn
  have:=Jmi l (s ++ t) h2 fun y hy=>by
   have:=h y F0;simp only [List.mem_append,List.mem_cons] at this ⊢
   rcases this with h3|h3|h3
   ·exact .inl h3
   ·exact absurd (h3 ▸ hy) h1
   ·exact .inr h3
  simp only [List.length_append,List.length_cons] at this ⊢;exact Ua
theorem Jfx {R:List ByteArray} {nd:Qe->List ByteArray} : ∀(l:List Qe) (k:Nat),¬(Yd R nd k l).2<0->∃(i:Nat) (q:Qe),(Yd R nd k l).2=((k+i:Nat):Int)/\l[i]?=some q/\Ka R q.name=false/\(nd q).all (Ka R)=true
 | [],k,h=>by simp [Yd] at h
 | q :: r,k,h=>by
  rw [Yd] at h ⊢
  by_cases hb:Ka R q.name=true
  ·rw [if_pos hb] at h ⊢;obtain⟨i,x,h1,h2,h3⟩:=Jfx r (k+1) h;exact⟨i+1,x,by rw [h1];congr 1;omega,Lg,h3⟩
  ·rw [if_neg hb] at h ⊢;dsimp only at h ⊢
   by_cases ha:(nd q).all (Ka R)=true
   ·rw [if_pos ha];exact⟨0,q,rfl,rfl,by simpa using hb,ha⟩
   ·rw [if_neg ha] at h ⊢;obtain⟨i,x,h1,h2,h3⟩:=Jfx r (k+1) h;exact⟨i+1,x,by rw [h1];congr 1;omega,Lg,h3⟩
theorem Jgb {R:List ByteArray} {nd:Qe->List ByteArray} : ∀(l:List Qe) (k:Nat),(Yd R nd k l).2<0->(∀q∈l,Ka R q.name=false->(nd q).all (Ka R)=false)/\((∃q∈l,Ka R q.name=false)->∃(i:Nat) (q:Qe),(Yd R nd k l).1=((k+i:Nat):Int)/\l[i]?=some q/\Ka R q.name=false)
 | [],k,h=>⟨Ul,Ul⟩
 | q :: r,k,h=>by
  rw [Yd] at h ⊢
  by_cases hb:Ka R q.name=true
  ·rw [if_pos hb] at h ⊢;obtain⟨h1,h2⟩:=Jgb r (k+1) h;refine⟨fun x hx rf=>?_,fun xn=>?_⟩
   ·rcases List.mem_cons.1 hx with rfl|hx
    ·rw [hb] at rf;cases rf
    ·exact h1 x hx rf
   ·obtain⟨x,hx,rf⟩:=xn
    rcases List.mem_cons.1 hx with rfl|hx
    ·rw [hb] at rf;cases rf
    ·obtain⟨i,y,e1,e2,e3⟩:=h2 ⟨x,hx,rf⟩;exact⟨i+1,y,by rw [e1];congr 1;omega,by simpa using e2,e3⟩
  ·rw [if_neg hb] at h ⊢;dsimp only at h ⊢
   by_cases ha:(nd q).all (Ka R)=true
   ·rw [if_pos ha] at h;omega
   ·rw [if_neg ha] at h;obtain⟨h1,h2⟩:=Jgb r (k+1) h;refine⟨fun x hx rf=>?_,fun _=>⟨0,q,rfl,rfl,by simpa using hb⟩⟩
    rcases List.mem_cons.1 hx with rfl|hx
    ·simpa using ha
    ·exact h1 x hx rf
def Joc (R0:List ByteArray) (nd:Qe->List ByteArray) (eqs:List Qe) (i:Nat) (j:Int) (l:List Int):Prop:=
 0<=j/\∃q,eqs[j.toNat]?=some q/\q.name ∉ R0 ++ (l.take i).map (Za eqs)/\∀s∈nd q,s∈R0 ++ (l.take i).map (Za eqs)
theorem Jkx {nd:Qe->List ByteArray} {eqs:List Qe} {left:Nat} {R0:List ByteArray} : ∀(t:Nat) (R:List ByteArray) (out:List Int),out.length+t=left->R=R0 ++ out.map (Za eqs)->(∀(i:Nat) (j:Int),out[i]?=some j->Joc R0 nd eqs i j out)->
  (∃res,Jfk nd eqs left t R out=(res,(0,0,0))/\res.length=left/\∀(i:Nat) (j:Int),res[i]?=some j->Joc R0 nd eqs i j res)\/
  (∃out',Jfk nd eqs left t R out=([],(3,(Yd (R0 ++ out'.map (Za eqs)) nd 0 eqs).1,22))/\out'.length<left/\(Yd (R0 ++ out'.map (Za eqs)) nd 0 eqs).2<0/\∀(i:Nat) (j:Int),out'[i]?=some j->Joc R0 nd eqs i j out')
 | 0,R,out,ht,hR,hg=> .inl ⟨out,rfl,Ua,hg⟩
 | t+1,R,out,ht,hR,hg=>by
  rw [Jfk,if_pos Ua]
  by_cases hn:(Yd R nd 0 eqs).2<0
  ·rw [if_pos hn]
   right
   subst hR;exact⟨out,rfl,Ua,hn,hg⟩
  ·rw [if_neg hn];obtain⟨j,q,h1,h2,h3,h4⟩:=Jfx eqs 0 hn;rw [Nat.zero_add] at h1;have hname:Za eqs (j:Int)=q.name:=by unfold Za;rw [Int.toNat_natCast,h2]
   rw [h1];refine Jkx t _ _ Uj (by rw [hR,List.map_append,List.append_assoc];rfl) fun i x hi=>?_
   rcases Nat.lt_trichotomy i out.length with am|he|am
   ·rw [List.getElem?_append_left am] at hi;have:=hg i x hi;unfold Joc at this ⊢;rw [List.take_append_of_le_length Ua];exact this
   ·subst he;rw [List.getElem?_append_right (Nat.le_refl _),Nat.sub_self] at hi;obtain rfl:(j:Int)=x:=Mf;refine⟨Ua,q,by rw [Int.toNat_natCast];exact h2,?_,?_⟩
    ·rw [List.take_left' rfl,<-hR];exact Jb5.1 h3
    ·rw [List.take_left' rfl,<-hR];intro s hs;exact Jbk.1 (List.all_eq_true.1 h4 s hs)
   ·rw [List.getElem?_eq_none Uj] at hi
    cases hi
theorem Jms {eqs:List Qe} {j:Int} {q:Qe} (h:eqs[j.toNat]?=some q):Za eqs j=q.name:=by unfold Za;rw [h]
theorem Jqy {p:Pr} (h:J7 p=(0,0,0)):((p.eqs.filter (fun q=>q.delay == 0)).map (·.name)).Nodup:=by
 unfold List.Nodup;rw [List.pairwise_map];exact(Jbe h).1.filter _
theorem Jrq {p:Pr} (h:J7 p=(0,0,0)) {nd:Qe->List ByteArray} {out:List Int} (hl:out.length<Yn p.eqs):∃q∈p.eqs,Ka (Yj p ++ out.map (Za p.eqs)) q.name=false:=by
 refine Classical.byContradiction fun oG=>?_
 have eF:∀q∈p.eqs,q.name∈Yj p ++ out.map (Za p.eqs):=fun q hq=>by
  rw [<-Jbk]
  cases hb:Ka (Yj p ++ out.map (Za p.eqs)) q.name
  ·exact absurd ⟨q,hq,hb⟩ oG
  ·exact Gd
 have h1:=Jmi _ (out.map (Za p.eqs)) (Jqy h) fun s hs=>by
  rw [List.mem_map] at hs;obtain⟨q,hq,rfl⟩:=hs;rw [List.mem_filter] at hq;obtain⟨i,hi⟩:=List.getElem?_of_mem hq.1;obtain⟨xj,dV,_⟩:=Jbe h
  rcases List.mem_append.1 (eF q hq.1) with h2|h2
  ·exfalso
   unfold Yj at h2
   rcases List.mem_append.1 h2 with h3|h3
   ·exact dV q hq.1 h3
   ·obtain⟨x,hx,rd,xm⟩:=Jdq.1 h3;obtain⟨j,hj⟩:=List.getElem?_of_mem hx;obtain rfl:=Jmb xj hj hi xm;rw [hi] at hj;obtain rfl:q=x:=by injection hj
    exact rd (by simpa using hq.2)
  ·exact h2
 rw [List.length_map,List.length_map] at h1;unfold Yn at hl;exact Ua
theorem Jw0 {p:Pr} {l:List ByteArray} {q:Qe} (hq:q∈p.eqs) (h:q.name ∉ Yj p ++ l):q.delay=0:=by
 refine Classical.byContradiction fun hd=>h ?_;refine List.mem_append.2 (.inl ?_);unfold Yj;exact List.mem_append.2 (.inr (Jdq.2 ⟨q,hq,hd,rfl⟩))
theorem Jiu {p:Pr} (h:J7 p=(0,0,0)) :
  (∃res,Jbo p=(res,(0,0,0))/\res.length=Yn p.eqs/\∀(i:Nat) (j:Int),res[i]?=some j->Joc (Yj p) (ofR (Je p)) p.eqs i j res)\/
  (∃(out:List Int) (at':Nat) (q:Qe),Jbo p=([],(3,(at':Int),22))/\p.eqs[at']?=some q/\q.name ∉ Yj p ++ out.map (Za p.eqs)/\q.delay=0/\∀x∈p.eqs,x.name ∉ Yj p ++ out.map (Za p.eqs)->¬ ∀s∈ofR (Je p) x,s∈Yj p ++ out.map (Za p.eqs)):=by
 rcases Jkx (nd:=ofR (Je p)) (eqs:=p.eqs) (left:=Yn p.eqs) (R0:=Yj p) (Yn p.eqs) (Yj p) [] Ul Ul Ul with ⟨res,h1,h2,h3⟩|⟨out,h1,h2,h3,_⟩
 ·exact .inl ⟨res,h1,h2,h3⟩
 ·right
  obtain⟨s1,s2⟩:=Jgb p.eqs 0 h3;obtain⟨i,q,e1,e2,e3⟩:=s2 (Jrq (nd:=ofR (Je p)) h h2);rw [Nat.zero_add] at e1;refine⟨out,i,q,by unfold Jbo;rw [h1,e1],e2,Jb5.1 e3,Jw0 (List.mem_of_getElem? e2) (Jb5.1 e3),fun x hx hn eF=>?_⟩;have:=s1 x hx (Jb5.2 hn);rw [<-Bool.not_eq_true] at this;exact this (List.all_eq_true.2 fun s hs=>Jbk.2 (eF s hs))
def J1 (p:Pr):List Int×(Int×Int×Int):=if Qg p=(0,0,0) then Jbo p else([],Qg p)
end Go.Proofs.YtknfcamdfdfoeaaGreatDoor
