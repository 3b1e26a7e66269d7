/- Lemmas. -/
import Derived.Test.YtdgjplldlfeolaaGreatDoorZ15
import Derived.Test.YtdgjplldlfeolaaGreatDoorZ12
import Derived.Test.YtdgjplldlfeolaaGreatDoorZ05
import Derived.Test.YtdgjplldlfeolaaGreatDoorZ01
import Derived.Test.YtdgjplldlfeolaaGreatDoorZ00
import Derived.Test.YtdgjplldlfeolaaGreatDoorZ16
import Derived.Test.YtdgjplldlfeolaaGreatDoorZ03
import Derived.Test.YtdgjplldlfeolaaGreatDoorZ10
set_option linter.unusedVariables false
set_option linter.unusedSimpArgs false
set_option maxRecDepth 100000
set_option maxHeartbeats 64000000
namespace Go.Proofs.YtdgjplldlfeolaaGreatDoor
open Go.RowKit Go.Sort
theorem Jxz (l:List Va) (A:Option Addr) (cap:Nat) (hn:l.length<=1000000) (e:Ex):e.formed=true->OfP l A cap e:=by
 induction e using Ex.ind with
 | h e ih=>
 intro hf Ae ce ck cs w hg he hl;have ih':∀x∈e.sub,OfP l A cap x:=fun x hx=>ih x hx (Q9 hf x hx)
 by_cases h3:e.kind=3
 ·exact Jy4 l A cap hn e hf ih' Ae ce ck cs w hg he hl h3
 by_cases h8:e.kind=8
 ·exact Jyd l A cap hn e hf ih' Ae ce ck cs w hg he hl h8
 by_cases h9:e.kind=9
 ·exact Juj l A cap hn e hf ih' Ae ce ck cs w hg he hl h9
 by_cases bM:e.kind=10
 ·exact Jwu l A cap hn e hf ih' Ae ce ck cs w hg he hl bM
 exact Jxc l A cap hn e hf ih' Ae ce ck cs w hg he hl ⟨h3,h8,h9,bM⟩
theorem Zr (a b c:Int) (w:World):(Op.equalIn 10000 32 (.agg #[.int .i64 a,.int .i64 b,.int .i64 c]) (.agg #[.int .i64 0,.int .i64 0,.int .i64 0])).run Tryz.prog w = .ok (a == 0 && b == 0 && c == 0) w:=by
 have hS:Tryz.prog.underlying 32=some (.struct (Tryz.prog.fieldsOf 32)):=by kernel_rfl
 have hp:Tryz.prog.stoodInHeld 32=false:=by kernel_rfl
 rw [show(10000:Nat)=9999+1 from rfl,run_equalIn_agg w 9999 32 _ _ hS hp];simp only [Program.fieldsOf,Tryz.underlying32];go_simp
 by_cases h1:a=0 <;> by_cases h2:b=0 <;> by_cases h3:c=0 <;> simp [h1,h2,h3]
theorem Jmg (p:Pr) (a:PrA) (w:World) (hp:Kr w p a) (n1:p.ins.length<=1000000) (n2:p.outs.length<=1000000) (n3:p.locals.length<=1000000) (n4:p.eqs.length<=1000000) (aN:J7 p≠(0,0,0)) :
  Calls Tryz.prog 121 #[prV p a] w fun r w'=>r = .returned (fV (J7 p))/\Below w.heap.size w w':=by
 have aV:=fun W h=>Jnk p a W (hp.later h) n1 n2 n3 n4
 have aS:((J7 p).1 == 0 && (J7 p).2.1 == 0 && (J7 p).2.2 == 0)=false:=by
  rw [Bool.eq_false_iff];intro h;simp only [Bool.and_eq_true,beq_iff_eq] at h;exact aN (Prod.ext h.1.1 (Prod.ext h.1.2 h.2))
 have dp:∀w,(Op.equalIn 10000 32 (.agg #[.int .i64 (J7 p).1,.int .i64 (J7 p).2.1,.int .i64 (J7 p).2.2]) (.agg #[.int .i64 0,.int .i64 0,.int .i64 0])).run Tryz.prog w = .ok false w:=fun w=>by rw [Zr,aS]
 have fM:Tryz.prog.eqGuardType Tryz.prog.depth 32=false:=by kernel_rfl
 clear aN aS;obtain⟨A1,c1,A2,c2,A3,c3,A4,c4⟩:=a;unfold prV fV at *;dsimp only at *;generalize (J7 p).1=k1 at *;generalize (J7 p).2.1=k2 at *;generalize (J7 p).2.2=k3 at *;clear hp
 go_enter Tryz.func121,Tryz.ntmps121
 go_wp2_with (first|(go_at_call 132;refine(aV _ Jb).mono ?_;rintro r w1 ⟨rfl,ac⟩;have ak:=Jg ac;have tH:=Jf ac;have af:=ac.size;(try simp at af);have bV:=alt ac))
 refine bodyPost_ret (v:= .agg #[.int .i64 k1,.int .i64 k2,.int .i64 k3]) (by simp [results,Tryz.results121,go_sem, *]) rfl ⟨rfl,?_⟩;exact Km
def Yy (l:List Va):Nat->List Va->Option (Nat×Int)
 | _,[]=>none
 | k,v :: r=>if Yc l v≠0 then some (k,Yc l v) else Yy l (k+1) r
def Jcy (l:List Va) (s:ByteArray):Int×ByteArray:=match Xb l s with|some v=>(v.ck,v.cn)|none=>(0,⟨#[]⟩)
def Y7 (l:List Va):Nat->List Qe->Option (Nat×Int)
 | _,[]=>none
 | k,q :: r=>if q.e.clk l (Jcy l q.name)≠0 then some (k,q.e.clk l (Jcy l q.name)) else Y7 l (k+1) r
def Ji8 (r:Option (Nat×Int)):Int×Int×Int:=match r with|some (k,e)=>(3,(k:Int),e)|none=>(0,0,0)
def Jgx (p:Pr) (r:Option (Nat×Int)):Int×Int×Int:=match r with|some (k,e)=>(2,(k:Int),e)|none=>Ji8 (Y7 (Je p) 0 p.eqs)
def Qg (p:Pr):Int×Int×Int:=if J7 p≠(0,0,0) then J7 p else Jgx p (Yy (Je p) 0 (Je p))
theorem Jlm {p:Pr} (h:J7 p=(0,0,0)):K5 p=0/\(Je p).length<=24:=by
 unfold J7 at h
 by_cases he:K5 p≠0
 ·rw [if_pos he] at h;simp at h
 rw [if_neg he] at h
 by_cases hb:8<p.ins.length\/8<p.outs.length\/24<(Je p).length
 ·rw [if_pos hb] at h;simp at h
 exact⟨Decidable.not_not.1 he,by omega⟩
theorem Jl3 (p:Pr) (a:PrA) (w:World) (hg:Ql w) (hp:Kr w p a) (n1:p.ins.length<=1000000) (n2:p.outs.length<=1000000) (n3:p.locals.length<=1000000) (n4:p.eqs.length<=1000000) (aN:J7 p=(0,0,0)) :
  Calls Tryz.prog 121 #[prV p a] w fun r w'=>r = .returned (fV (Qg p))/\Below w.heap.size w w':=by
 have dD:Qg p=Jgx p (Yy (Je p) 0 (Je p)):=by unfold Qg;rw [if_neg (by rw [aN];simp)]
 obtain⟨lG,hL24⟩:=Jlm aN;have dn:=(X4 (Z5 lG)).2.2.2.2;have aV:=fun W h=>Jnk p a W (hp.later h) n1 n2 n3 n4;have aJ:=fun W h=>Jcv p a W (hp.later h) n1 n2 n3;rw [aN] at aV;have dp:∀w,(Op.equalIn 10000 32 (.agg #[.int .i64 0,.int .i64 0,.int .i64 0]) (.agg #[.int .i64 0,.int .i64 0,.int .i64 0])).run Tryz.prog w = .ok true w:=fun w=>by rw [Zr];rfl
 have fM:Tryz.prog.eqGuardType Tryz.prog.depth 32=false:=by kernel_rfl
 clear aN lG;have jQ:=Lib.hid dD;clear dD;have jR:=Lib.hid dn;clear dn;have bT:=hp.eqs;have oM:=hp.eqs.len;obtain⟨A1,c1,A2,c2,A3,c3,A4,c4⟩:=a;unfold maxLen at oM;unfold prV fV at *;dsimp only at *;obtain⟨tC,tD⟩:=oM;have cM:Jgx p none=Ji8 (Y7 (Je p) 0 p.eqs):=rfl;have tE:=Lib.hid cM;clear cM;generalize hL:Je p=L at *;clear hL hp
 go_enter Tryz.func121,Tryz.ntmps121
 go_wp2_with (first|(go_at_call 132;refine(aV _ Jb).mono ?_;rintro r wa ⟨rfl,aA⟩;have aW:=Jg aA;have bS:=Jf aA;have cN:w.heap.size+2<=wa.heap.size:=(by have:=aA.size;simpa using this);have dG:w.heap.size<wa.heap.size:=(by omega);have aX:w.heap.size+1<wa.heap.size:=(by omega))|(go_at_call 118;refine(aJ _ Jb).mono ?_;rintro r wb ⟨⟨A,cap,rfl,ae⟩,aH⟩;have el:=Jg aH;have mJ:=Jf aH;have dH:=aH.size;(try simp at dH);have cA:w.heap.size<wb.heap.size:=(by omega);have ep:w.heap.size+1<wb.heap.size:=(by omega);have cR:=Ju.of_own ae))
 refine Jo fun W0 ag=>?_;have ax:Below w.heap.size w W0:=by rw [ag];exact Jb
 have bD:w.heap.size<W0.heap.size:=by rw [ag];omega
 have af:w.heap.size+1<W0.heap.size:=by rw [ag];omega
 have x4:W0.cell? ⟨w.heap.size,4,none⟩=some (.slice A4 p.eqs.length c4):=by rw [ag];go_simp
 have f0:W0.cell? ⟨w.heap.size+1,0,none⟩=some (.int .i64 0):=by rw [ag];go_simp
 have f1:W0.cell? ⟨w.heap.size+1,1,none⟩=some (.int .i64 0):=by rw [ag];go_simp
 have f2:W0.cell? ⟨w.heap.size+1,2,none⟩=some (.int .i64 0):=by rw [ag];go_simp
 have z0:W0.frozen? ⟨w.heap.size+1,0,none⟩=false:=by rw [ag];go_simp
 have z1:W0.frozen? ⟨w.heap.size+1,1,none⟩=false:=by rw [ag];go_simp
 have z2:W0.frozen? ⟨w.heap.size+1,2,none⟩=false:=by rw [ag];go_simp
 have bE:Ju W0 L A cap:=by rw [ag];exact cR
 clear ag;replace bT:=bT.later ax;replace hg:=hg.later ax;clear aV aJ dp fM ae cR aW el bS mJ
 go_loopw [23] (fun i wr=>∃k:Nat,k<=L.length/\i = .int .i64 k/\Yy L k (L.drop k)=Yy L 0 L/\Below W0.heap.size W0 wr) (fun i _=>L.length-(intOf i).toNat)
 case atStart=>exact⟨0,Nat.zero_le _,rfl,rfl,Below.refl _ _⟩
 case round=>
  obtain⟨k,hk,rfl,aa,ab⟩:=hrel;have hc:=Jg ab;have eh:=Jf ab;have bu:=ab.size;have fF:w.heap.size<wr.heap.size:=by omega
  have fa:w.heap.size+1<wr.heap.size:=by omega
  by_cases am:k<L.length
  ·have so:=fun(x:Va) W h=>Jpa L A cap x W ((hg.later ab).later h) ((bE.later ab).later h) (by omega);obtain⟨x,hx,-,hd⟩:=Kl am;obtain⟨b,off,rfl,aH,⟨d0,d1,d2,d3⟩⟩:=(bE.later ab).get hx;rw [hd,Yy] at aa;have dy:=fun W h=>so x W h;clear so;unfold vaV at dy;clear hd hx;generalize Yc L x=de at *
   by_cases eD:de≠0
   ·rw [if_pos eD] at aa;have hv:Qg p=(2,(k:Int),de):=by rw [jQ.out,<-aa];rfl
    have t1:(de != 0)=true:=by simpa using eD
    clear aa eD;have HV:=Lib.hid hv;clear hv
    go_wp2_with (first|(go_at_call 133;refine(dy _ Jb).mono ?_;rintro r w1 ⟨rfl,ac⟩;have ak:=Jg ac;have db:=Jf ac;have eI:=ac.size;(try simp at eI);have bV:w.heap.size<w1.heap.size:=(by omega);have gq:w.heap.size+1<w1.heap.size:=(by omega)))
    refine bodyPost_ret (v:= .agg #[.int .i64 (2),.int .i64 ((k:Int)),.int .i64 (de)]) (by simp [results,Tryz.results121,go_sem, *]) rfl ⟨by rw [HV.out],?_⟩;exact Km
   ·rw [if_neg eD] at aa;have t1:(de != 0)=false:=by simpa using eD
    have HR:=Lib.hid aa;clear aa eD
    go_wp2_with (first|(go_at_call 133;refine(dy _ Jb).mono ?_;rintro r w1 ⟨rfl,ac⟩;have ak:=Jg ac;have db:=Jf ac;have eI:=ac.size;(try simp at eI);have bV:w.heap.size<w1.heap.size:=(by omega);have gq:w.heap.size+1<w1.heap.size:=(by omega)))
    go_roundw
    case rel=>exact⟨k+1,by omega,by go_num,HR.out,Jb⟩
    case measure=>simp [intOf];omega
  obtain rfl:k=L.length:=by omega
  rw [List.drop_length,Yy] at aa;have fC:Qg p=Ji8 (Y7 L 0 p.eqs):=by rw [jQ.out,<-aa];exact tE.out
  have ku:=Lib.hid fC;clear fC aa
  go_wp2_with fail
  clear hc eh bu fF fa
  go_loopw [40] (fun i wr=>∃k:Nat,k<=p.eqs.length/\i = .int .i64 k/\Y7 L k (p.eqs.drop k)=Y7 L 0 p.eqs/\Below W0.heap.size W0 wr) (fun i _=>p.eqs.length-(intOf i).toNat)
  case atStart=>exact⟨0,Nat.zero_le _,rfl,rfl,ab⟩
  case round=>
   clear ab;obtain⟨k,hk,rfl,aa,ab⟩:=hrel;have hc:=Jg ab;have eh:=Jf ab;have bu:=ab.size;have fF:w.heap.size<wr.heap.size:=by omega
   have fa:w.heap.size+1<wr.heap.size:=by omega
   by_cases am:k<p.eqs.length
   ·obtain⟨q,hx,-,hd⟩:=Kl am;obtain⟨b,off,B1,n1,B2,n2,rfl,aH,⟨g0,g1,g2,g3,g4,g5,g6,g7,g8,g9,s1,s2⟩⟩:=(bT.later ab).get hx;rw [hd,Y7] at aa
    have hf:q.e.formed=true:=by
     have:=jR.out q (List.mem_of_getElem? hx);simp only [eqB,Bool.and_eq_true] at this;exact(Ex.right_zero.1 (by simpa using this.1.2)).2.2
    have ap:=fun W h=>Jg9 L A cap q.name W ((bE.later ab).later h) (by omega);have ix:=fun ck cs W h=>Jxz L A cap (by omega) q.e hf B2 n2 ck cs W ((hg.later ab).later h) (s2.later h) ((bE.later ab).later h);unfold exV at ix;clear hd hx hf;have bO:Jcy L q.name=Jcy L q.name:=rfl;rw (occs:= .pos [2]) [Jcy] at bO
    cases eB:Xb L q.name with
    | none=>
     rw [eB] at bO ap;dsimp only at bO;rw [bO] at aa;have ix:=ix 0 ⟨#[]⟩;unfold fcV vaV Jh8 at ap;dsimp only at ap;clear bO eB;generalize q.e.clk L (0,⟨#[]⟩)=de at *
     by_cases eD:de≠0
     ·rw [if_pos eD] at aa;have hv:Qg p=(3,(k:Int),de):=by rw [ku.out,<-aa];rfl
      have t1:(de != 0)=true:=by simpa using eD
      clear aa eD;have HV:=Lib.hid hv;clear hv
      go_wp2_with (first|(go_at_call 134;refine(ap _ Jb).mono ?_;rintro r w1 ⟨rfl,ac⟩;have ak:=Jg ac;have db:=Jf ac;have eI:=ac.size;(try simp at eI);have bV:w.heap.size<w1.heap.size:=(by omega);have gq:w.heap.size+1<w1.heap.size:=(by omega);have ow:wr.heap.size<w1.heap.size:=(by omega))|(go_at_call 135;refine(ix _ Jb).mono ?_;rintro r w2 ⟨rfl,aq⟩;have dm:=Jg aq;have gO:=Jf aq;have kG:=aq.size;(try simp at kG);have ns:w.heap.size<w2.heap.size:=(by omega);have nt:w.heap.size+1<w2.heap.size:=(by omega)))
      refine bodyPost_ret (v:= .agg #[.int .i64 (3),.int .i64 ((k:Int)),.int .i64 (de)]) (by simp [results,Tryz.results121,go_sem, *]) rfl ⟨by rw [HV.out],?_⟩;exact Km
     ·rw [if_neg eD] at aa;have t1:(de != 0)=false:=by simpa using eD
      have HR:=Lib.hid aa;clear aa eD
      go_wp2_with (first|(go_at_call 134;refine(ap _ Jb).mono ?_;rintro r w1 ⟨rfl,ac⟩;have ak:=Jg ac;have db:=Jf ac;have eI:=ac.size;(try simp at eI);have bV:w.heap.size<w1.heap.size:=(by omega);have gq:w.heap.size+1<w1.heap.size:=(by omega);have ow:wr.heap.size<w1.heap.size:=(by omega))|(go_at_call 135;refine(ix _ Jb).mono ?_;rintro r w2 ⟨rfl,aq⟩;have dm:=Jg aq;have gO:=Jf aq;have kG:=aq.size;(try simp at kG);have ns:w.heap.size<w2.heap.size:=(by omega);have nt:w.heap.size+1<w2.heap.size:=(by omega)))
      go_roundw
      case rel=>exact⟨k+1,by omega,by go_num,HR.out,Jb⟩
      case measure=>simp [intOf];omega
    | some v=>
     rw [eB] at bO ap;dsimp only at bO;rw [bO] at aa;have ix:=ix v.ck v.cn;unfold fcV vaV at ap;dsimp only at ap;clear bO eB;generalize q.e.clk L (v.ck,v.cn)=de at *
     by_cases eD:de≠0
     ·rw [if_pos eD] at aa;have hv:Qg p=(3,(k:Int),de):=by rw [ku.out,<-aa];rfl
      have t1:(de != 0)=true:=by simpa using eD
      clear aa eD;have HV:=Lib.hid hv;clear hv
      go_wp2_with (first|(go_at_call 134;refine(ap _ Jb).mono ?_;rintro r w1 ⟨rfl,ac⟩;have ak:=Jg ac;have db:=Jf ac;have eI:=ac.size;(try simp at eI);have bV:w.heap.size<w1.heap.size:=(by omega);have gq:w.heap.size+1<w1.heap.size:=(by omega);have ow:wr.heap.size<w1.heap.size:=(by omega))|(go_at_call 135;refine(ix _ Jb).mono ?_;rintro r w2 ⟨rfl,aq⟩;have dm:=Jg aq;have gO:=Jf aq;have kG:=aq.size;(try simp at kG);have ns:w.heap.size<w2.heap.size:=(by omega);have nt:w.heap.size+1<w2.heap.size:=(by omega)))
      refine bodyPost_ret (v:= .agg #[.int .i64 (3),.int .i64 ((k:Int)),.int .i64 (de)]) (by simp [results,Tryz.results121,go_sem, *]) rfl ⟨by rw [HV.out],?_⟩;exact Km
     ·rw [if_neg eD] at aa;have t1:(de != 0)=false:=by simpa using eD
      have HR:=Lib.hid aa;clear aa eD
      go_wp2_with (first|(go_at_call 134;refine(ap _ Jb).mono ?_;rintro r w1 ⟨rfl,ac⟩;have ak:=Jg ac;have db:=Jf ac;have eI:=ac.size;(try simp at eI);have bV:w.heap.size<w1.heap.size:=(by omega);have gq:w.heap.size+1<w1.heap.size:=(by omega);have ow:wr.heap.size<w1.heap.size:=(by omega))|(go_at_call 135;refine(ix _ Jb).mono ?_;rintro r w2 ⟨rfl,aq⟩;have dm:=Jg aq;have gO:=Jf aq;have kG:=aq.size;(try simp at kG);have ns:w.heap.size<w2.heap.size:=(by omega);have nt:w.heap.size+1<w2.heap.size:=(by omega)))
      go_roundw
      case rel=>exact⟨k+1,by omega,by go_num,HR.out,Jb⟩
      case measure=>simp [intOf];omega
   obtain rfl:k=p.eqs.length:=by omega
   rw [List.drop_length,Y7] at aa;have hv:Qg p=(0,0,0):=by rw [ku.out,<-aa];rfl
   clear aa;have HV:=Lib.hid hv;clear hv
   go_wp2_with fail
   refine bodyPost_ret (v:= .agg #[.int .i64 (0),.int .i64 (0),.int .i64 (0)]) (by simp [results,Tryz.results121,go_sem, *]) rfl ⟨by rw [HV.out],?_⟩;exact Km
theorem Jhx (p:Pr) (a:PrA) (w:World) (hg:Ql w) (hp:Kr w p a) (n1:p.ins.length<=1000000) (n2:p.outs.length<=1000000) (n3:p.locals.length<=1000000) (n4:p.eqs.length<=1000000) :
  Calls Tryz.prog 121 #[prV p a] w fun r w'=>r = .returned (fV (Qg p))/\Below w.heap.size w w':=by
 by_cases aN:J7 p=(0,0,0)
 ·exact Jl3 p a w hg hp n1 n2 n3 n4 aN
 ·have hv:Qg p=J7 p:=by unfold Qg;rw [if_pos aN]
  rw [hv];exact Jmg p a w hp n1 n2 n3 n4 aN
end Go.Proofs.YtdgjplldlfeolaaGreatDoor
namespace Go.Proofs.YtdgjplldlfeolaaGreatDoor
open Go.RowKit
def cnt (s:ByteArray):List Qe->Nat
 | []=>0
 | q :: r=>(if q.name=s then 1 else 0)+cnt s r
def occ (s:ByteArray):List Va->Nat
 | []=>0
 | v :: r=>(if s=v.name then 1 else 0)+occ s r
def Jhj (qs:List Qe):List Va->Nat
 | []=>0
 | v :: r=>cnt v.name qs+Jhj qs r
theorem Jg7 {L:List Va} : ∀(r:List Va) (k:Nat),Jah L k r=none->∀(i:Nat) (v:Va),r[i]?=some v->(Qi L v.name).getD 0=((k+i:Nat):Int)
 | [],_,_,i,v,hi=>by simp at hi
 | u :: r,k,h,i,v,hi=>by
  rw [Jah] at h
  by_cases hc:(Qi L u.name).getD 0≠(k:Int)
  ·rw [if_pos hc] at h;cases h
  ·rw [if_neg hc] at h
   cases i with
   | zero=>
    obtain rfl:u=v:=by simpa using hi
    have:(Qi L u.name).getD 0=(k:Int):=Decidable.not_not.1 hc;simpa using this
   | succ i=>
    have:=Jg7 r (k+1) h i v (by simpa using hi);rw [this];congr 1;omega
theorem Jhb {L:List Va} {ins:Int} {d:ByteArray->Option Int} {q:Qe} (h:eqE L ins d q=0):∃j,Qi L q.name=some j/\¬j<ins/\¬0<(d q.name).getD 0/\(q.e.typ L).2=0/\(q.e.typ L).1=Zz L j:=by
 unfold eqE at h
 cases hf:Qi L q.name with
 | none=>rw [hf] at h;simp at h
 | some j=>
  rw [hf] at h;simp only at h
  by_cases h1:j<ins
  ·rw [if_pos h1] at h;omega
  rw [if_neg h1] at h
  by_cases h2:0<(d q.name).getD 0
  ·rw [if_pos h2] at h;omega
  rw [if_neg h2] at h
  by_cases h3:(q.e.typ L).2≠0
  ·rw [if_pos h3] at h;exact absurd h h3
  rw [if_neg h3] at h
  by_cases h4:q.delay=1/\(q.first.typ L).1≠Zz L j
  ·rw [if_pos h4] at h;omega
  rw [if_neg h4] at h
  by_cases h5:(q.e.typ L).1≠Zz L j
  ·rw [if_pos h5] at h;omega
  exact⟨j,rfl,h1,h2,Decidable.not_not.1 h3,Decidable.not_not.1 h5⟩
theorem Ji0 (d:ByteArray->Option Int) (n s:ByteArray):((upd d n ((d n).getD 0+1)) s).getD 0=(d s).getD 0+((if n=s then 1 else 0:Nat):Int):=by
 unfold upd
 by_cases h:n=s
 ·subst h;simp
 ·have:¬s.data=n.data:=fun hd=>h (by ext1;exact hd.symm);rw [if_neg this,if_neg h];simp
theorem Jfq {L:List Va} {ins:Int} : ∀(r:List Qe) (k:Nat) (d:ByteArray->Option Int),(Zy L ins k d r).1=none->
  (∀s,((Zy L ins k d r).2 s).getD 0=(d s).getD 0+(cnt s r:Int))/\(∀q∈r,∃d',eqE L ins d' q=0)/\((∀s,0<=(d s).getD 0)->(∀s,(d s).getD 0<=1)->∀s,(d s).getD 0+(cnt s r:Int)<=1)
 | [],k,d,h=>⟨fun s=>by simp [Zy,cnt],by simp,fun _ h2 s=>by simpa [cnt] using h2 s⟩
 | q :: r,k,d,h=>by
  rw [Zy] at h ⊢
  by_cases hc:eqE L ins d q≠0
  ·rw [if_pos hc] at h;cases h
  ·rw [if_neg hc] at h ⊢;obtain⟨h1,h2,h3⟩:=Jfq r (k+1) _ h;have he:eqE L ins d q=0:=Decidable.not_not.1 hc;refine⟨fun s=>?_,fun x hx=>?_,fun p1 p2 s=>?_⟩
   ·rw [h1 s,Ji0,cnt];push_cast;omega
   ·rcases List.mem_cons.1 hx with rfl|hx
    ·exact⟨d,he⟩
    ·exact h2 x hx
   ·obtain⟨j,_,_,hd,_⟩:=Jhb he;have hz:(d q.name).getD 0=0:=by have:=p1 q.name;omega
    have:=h3 (fun t=>by rw [Ji0];have:=p1 t;split <;> omega) (fun t=>by
     rw [Ji0]
     split
     ·rename_i ht;subst ht;rw [hz];decide
     ·have:=p2 t;simpa using this) s
    rw [Ji0] at this;rw [cnt];push_cast;omega
theorem Jji {d:ByteArray->Option Int} : ∀(r:List Va) (k:Nat),Jam d k r=none->∀v∈r,(d v.name).getD 0≠0
 | [],_,_,v,hv=>by simp at hv
 | u :: r,k,h,v,hv=>by
  rw [Jam] at h
  by_cases hc:(d u.name).getD 0=0
  ·rw [if_pos hc] at h;cases h
  ·rw [if_neg hc] at h
   rcases List.mem_cons.1 hv with rfl|hv
   ·exact hc
   ·exact Jji r (k+1) h v hv
theorem Jmk (q:Qe) (qs:List Qe):∀r,Jhj (q :: qs) r=occ q.name r+Jhj qs r
 | []=>rfl
 | v :: r=>by simp only [Jhj,cnt,occ,Jmk q qs r];omega
theorem Jo9:∀r,Jhj [] r=0
 | []=>rfl
 | v :: r=>by simp only [Jhj,cnt,Jo9 r]
theorem Jp7 (qs:List Qe):∀r:List Va,(∀v∈r,cnt v.name qs=1)->Jhj qs r=r.length
 | [],_=>rfl
 | v :: r,h=>by rw [Jhj,h v (by simp),Jp7 qs r (fun u hu=>h u (by simp [hu]))];simp;omega
theorem Jo5 (r:List Va):∀qs:List Qe,(∀q∈qs,occ q.name r=1)->Jhj qs r=qs.length
 | [],_=>Jo9 r
 | q :: qs,h=>by rw [Jmk,h q (by simp),Jo5 r qs (fun u hu=>h u (by simp [hu]))];simp;omega
theorem Jpt (s:ByteArray):∀r:List Va,(∀u∈r,u.name≠s)->occ s r=0
 | [],_=>rfl
 | v :: r,h=>by rw [occ,if_neg (fun e=>h v (by simp) e.symm),Jpt s r (fun u hu=>h u (by simp [hu]))]
theorem Jre (s:ByteArray):∀(r:List Va) (i:Nat) (v:Va),r[i]?=some v->v.name=s->(∀(j:Nat) (u:Va),r[j]?=some u->u.name=s->j=i)->occ s r=1
 | [],i,v,h,_,_=>by simp at h
 | u :: r,0,v,h,hs,hu=>by
  obtain rfl:u=v:=by simpa using h
  rw [occ,if_pos hs.symm,Jpt s r];intro x hx sd;obtain⟨j,hj⟩:=List.getElem?_of_mem hx;have:=hu (j+1) x (by simpa using hj) sd;omega
 | u :: r,i+1,v,h,hs,hu=>by
  have aS:¬s=u.name:=fun e=>by have:=hu 0 u rfl e.symm;omega
  rw [occ,if_neg aS,Jre s r i v (by simpa using h) hs (fun j x hj hx=>by have:=hu (j+1) x (by simpa using hj) hx;omega)]
theorem Jkj {s:ByteArray} : ∀ {r:List Qe},(∀q∈r,q.name≠s)->cnt s r=0
 | [],_=>rfl
 | q :: r,h=>by rw [cnt,if_neg (h q (by simp)),Jkj (fun u hu=>h u (by simp [hu]))]
theorem Jyb {p:Pr} (h:J7 p=(0,0,0)) :
  (∀(i:Nat) (v:Va) (q:Qe),(Je p)[i]?=some v->q∈p.eqs->q.name=v.name->ofF q.e (Je p)=(v.type,0))/\
  (∀(i:Nat) (v:Va),(Je p)[i]?=some v->cnt v.name p.eqs=if i<p.ins.length then 0 else 1)/\p.eqs.length=p.outs.length+p.locals.length:=by
 unfold J7 at h
 by_cases he:K5 p≠0
 ·rw [if_pos he] at h;simp at h
 rw [if_neg he] at h
 by_cases hb:8<p.ins.length\/8<p.outs.length\/24<(Je p).length
 ·rw [if_pos hb] at h;simp at h
 rw [if_neg hb] at h;have jn:=Z5 (Decidable.not_not.1 he);have dn:=(X4 jn).2.2.2.2;have ai:(Je p).length=p.ins.length+p.outs.length+p.locals.length:=by simp [Je];try omega
 unfold Jhl at h
 cases hd:Jah (Je p) 0 (Je p) with
 | some k=>rw [hd] at h;simp at h
 | none=>
 rw [hd] at h;simp only at h;unfold Jkn at h
 cases hq:(Zy (Je p) p.ins.length 0 (fun _=>none) p.eqs).1 with
 | some k=>rw [hq] at h;simp at h
 | none=>
 rw [hq] at h;simp only at h;unfold Jg3 at h
 cases hm:Jam (Zy (Je p) p.ins.length 0 (fun _=>none) p.eqs).2 p.ins.length ((Je p).drop p.ins.length) with
 | some k=>rw [hm] at h;simp at h
 | none=>
 have re:=Jg7 _ _ hd;obtain⟨ak,dm,kE⟩:=Jfq _ _ _ hq;have wA:=kE (fun s=>by simp) (fun s=>by simp);have sg:=Jji _ _ hm;generalize (Je p)=L at *
 have nj:∀(q:Qe),q∈p.eqs->∃(j:Nat) (v:Va),Qi L q.name=some (j:Int)/\p.ins.length<=j/\L[j]?=some v/\v.name=q.name/\ofF q.e L=(v.type,0):=by
  intro q kB;obtain⟨d',hd'⟩:=dm q kB;obtain⟨j,h1,h2,h3,h4,h5⟩:=Jhb hd';obtain⟨k,v,rfl,hk,hn⟩:=Zi h1;refine⟨k,v,h1,by omega,hk,hn,?_⟩
  have hr:q.e.right=0:=by
   have:=dn q kB;simp only [eqB,Bool.and_eq_true] at this;simpa using this.1.2
  unfold ofF;rw [if_neg (by omega)];have ht:Zz L (k:Int)=v.type:=by unfold Zz;simp [hk]
  rw [ht] at h5;exact Prod.ext h5 h4
 have oI:∀(i:Nat) (v:Va) (q:Qe),L[i]?=some v->q∈p.eqs->q.name=v.name->Qi L q.name=some (i:Int):=by
  intro i v q hi kB hn;obtain⟨j,u,h1,_⟩:=nj q kB;have:=re i v hi;rw [<-hn,h1] at this;simp only [Option.getD_some] at this;rw [h1];congr 1;omega
 refine⟨fun i v q hi kB hn=>?_,fun i v hi=>?_,?_⟩
 ·obtain⟨j,u,h1,h2,h3,h4,h5⟩:=nj q kB;have:=oI i v q hi kB hn;rw [h1] at this;have jO:j=i:=by injection this with this;omega
  subst jO;rw [h3] at hi;obtain rfl:u=v:=by injection hi
  exact h5
 ·by_cases am:i<p.ins.length
  ·rw [if_pos am];refine Jkj fun q kB hn=>?_;obtain⟨j,u,h1,h2,_⟩:=nj q kB;have:=oI i v q hi kB hn;rw [h1] at this;injection this with this;omega
  ·rw [if_neg am]
   have aj:v∈L.drop p.ins.length:=by
    refine List.mem_of_getElem? (i:=i-p.ins.length) ?_;rw [List.getElem?_drop];rw [show p.ins.length+(i-p.ins.length)=i from by omega];exact hi
   have h1:=sg v aj;rw [ak] at h1;have h2:=wA v.name;simp at h1 h2;omega
 ·have hL:(L.drop p.ins.length).length=p.outs.length+p.locals.length:=by rw [List.length_drop];omega
  rw [<-hL,<-Jp7 p.eqs (L.drop p.ins.length),Jo5]
  ·intro q kB;obtain⟨j,v,h1,h2,h3,h4,_⟩:=nj q kB;refine Jre q.name _ (j-p.ins.length) v ?_ h4 fun j' u hu gG=>?_
   ·rw [List.getElem?_drop,show p.ins.length+(j-p.ins.length)=j from by omega];exact h3
   ·rw [List.getElem?_drop] at hu;have:=oI _ u q hu kB gG.symm;rw [h1] at this;injection this with this;omega
  ·intro v hv;obtain⟨i,hi⟩:=List.getElem?_of_mem hv;rw [List.getElem?_drop] at hi;have aj:=sg v hv;rw [ak] at aj;have h2:=wA v.name;simp at aj h2;omega
theorem Jf5 {p:Pr} (h:J7 p=(0,0,0)):∀q∈p.eqs,∃j,Qi (Je p) q.name=some j:=by
 unfold J7 at h
 by_cases he:K5 p≠0
 ·rw [if_pos he] at h;simp at h
 rw [if_neg he] at h
 by_cases hb:8<p.ins.length\/8<p.outs.length\/24<(Je p).length
 ·rw [if_pos hb] at h;simp at h
 rw [if_neg hb] at h;unfold Jhl at h
 cases hd:Jah (Je p) 0 (Je p) with
 | some k=>rw [hd] at h;simp at h
 | none=>
 rw [hd] at h;simp only at h;unfold Jkn at h
 cases hq:(Zy (Je p) p.ins.length 0 (fun _=>none) p.eqs).1 with
 | some k=>rw [hq] at h;simp at h
 | none=>
 intro q kB;obtain⟨d',hz⟩:=(Jfq p.eqs 0 _ hq).2.1 q kB;obtain⟨j,hj,_⟩:=Jhb hz;exact⟨j,hj⟩
end Go.Proofs.YtdgjplldlfeolaaGreatDoor
namespace Go.Proofs.YtdgjplldlfeolaaGreatDoor
open Go.RowKit Go.Sort
theorem Jd6 (a b c:Int) (w:World):(Op.equalIn 10000 32 (.agg #[.int .i64 a,.int .i64 b,.int .i64 c]) (.agg #[.int .i64 a,.int .i64 b,.int .i64 c])).run Tryz.prog w = .ok true w:=by
 have hS:Tryz.prog.underlying 32=some (.struct (Tryz.prog.fieldsOf 32)):=by kernel_rfl
 have hp:Tryz.prog.stoodInHeld 32=false:=by kernel_rfl
 rw [show(10000:Nat)=9999+1 from rfl,run_equalIn_agg w 9999 32 _ _ hS hp];simp only [Program.fieldsOf,Tryz.underlying32];go_simp
end Go.Proofs.YtdgjplldlfeolaaGreatDoor
