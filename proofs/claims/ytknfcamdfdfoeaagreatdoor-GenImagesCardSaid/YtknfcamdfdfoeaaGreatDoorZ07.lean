/- Lemmas. -/
import Derived.Test.YtknfcamdfdfoeaaGreatDoorMac
import Derived.Laws.StructEq
import Derived.Test.YtknfcamdfdfoeaaGreatDoorRows
import Derived.Test.YtknfcamdfdfoeaaGreatDoorZ00
import Derived.Test.YtknfcamdfdfoeaaGreatDoorZ02
import Derived.RegionTactic
import Derived.BigRegion
import Derived.Test.YtknfcamdfdfoeaaGreatDoorZ04
import Derived.Test.YtknfcamdfdfoeaaGreatDoorZ01
import Derived.Test.YtknfcamdfdfoeaaGreatDoorZ03
set_option linter.unusedVariables false
set_option linter.unusedSimpArgs false
set_option maxRecDepth 100000
set_option maxHeartbeats 64000000
namespace Go.Proofs.YtknfcamdfdfoeaaGreatDoor
open Go.RowKit Go.Sort
theorem Zt (a:Int) (s:ByteArray) (b:Int) (t:ByteArray) (w:World):(Op.equalIn 10000 55 (.agg #[.int .i64 a,.string s]) (.agg #[.int .i64 b,.string t])).run Tryz.prog w = .ok (K9 a s b t) w:=by
 have hS:Tryz.prog.underlying 55=some (.struct (Tryz.prog.fieldsOf 55)):=Ug;have hp:Tryz.prog.stoodInHeld 55=false:=Ug;rw [show(10000:Nat)=9999+1 from rfl,run_equalIn_agg w 9999 55 _ _ hS hp];simp only [Program.fieldsOf,Tryz.underlying55];go_simp;unfold K9
 by_cases h1:a=b <;> by_cases h2:s.toList=t.toList <;> simp [h1,h2]
theorem Jbt:Tryz.prog.eqGuardType Tryz.prog.depth 55=false:=Ug
def Jh8:Va:=⟨⟨#[]⟩,0,0,⟨#[]⟩⟩
def fcV:Option Va->Value
 | some v=> .tuple #[vaV v,.bool true]
 | none=> .tuple #[vaV Jh8,.bool false]
theorem Jg9 (l:List Va) (A:Option Addr) (cap:Nat) (s:ByteArray) (w:World) (hl:Ju w l A cap) (hn:l.length<=1000000) :
  Calls Tryz.prog 77 #[.slice A l.length cap,.string s] w fun r w'=>r = .returned (fcV (Xb l s))/\Below w.heap.size w w':=by
 have hv:fcV (Xb l s)=fcV (Xb l s):=rfl;clear hv
 go_enter Tryz.func77,Tryz.ntmps77
 go_wp2_with fail
 refine Jo fun W0 ag=>?_;have ax:=Nd w W0 Uo;have bD:w.heap.size<W0.heap.size:=La;have f0:=Nb W0 w.heap.size 0 (.string ⟨#[]⟩) Uc;have f1:=Na W0 w.heap.size 1 0 Uc;have f2:=Na W0 w.heap.size 2 0 Uc;have f3:=Nb W0 w.heap.size 3 (.string ⟨#[]⟩) Uc;have z0:=Nc W0 w.heap.size 0 Uc;have z1:=Nc W0 w.heap.size 1 Uc;have z2:=Nc W0 w.heap.size 2 Uc;have z3:=Nc W0 w.heap.size 3 Uc;clear ag;replace hl:=hl.later ax
 go_loopw [10] (fun i wr=>∃k:Nat,k<=l.length/\i = .int .i64 k/\Xb (l.drop k) s=Xb l s/\Below W0.heap.size W0 wr) (fun i _=>l.length-(intOf i).toNat)
 case atStart=>exact⟨0,Np,rfl,rfl,Nt⟩
 case round=>
  obtain⟨k,hk,rfl,aa,ab⟩:=hrel;have hc:=Jg ab;have eh:=Jf ab;have bu:=ab.size;have fF:=lt0 w wr
  by_cases am:k<l.length
  ·obtain⟨x,hx,-,hd⟩:=Kl am;obtain⟨b,off,rfl,aH,⟨d0,d1,d2,d3⟩⟩:=(hl.later ab).get hx;rw [hd,Xb] at aa;clear hd hx
   cases dj:(x.name.toList == s.toList)
   ·rw [dj,if_neg Ul] at aa;have HR:=Nf aa;clear aa
    go_wp2_with fail
    exact Uc5
   ·rw [dj,if_pos rfl] at aa;have HR:=Nf aa;clear aa
    go_wp2_with fail
    refine Nv (v:= .tuple #[.agg #[.string x.name,.int .i64 x.type,.int .i64 x.ck,.string x.cn],.bool true]) (by simp [results,Tryz.results77,go_sem, *]) rfl ⟨by rw [<-HR.out];rfl,?_⟩;exact Km
  obtain rfl:k=l.length:=Ua;rw [Nn,Xb] at aa;have HR:=Nf aa;clear aa
  go_wp2_with fail
  refine Nv (v:= .tuple #[.agg #[.string ⟨#[]⟩,.int .i64 0,.int .i64 0,.string ⟨#[]⟩],.bool false]) (by simp [results,Tryz.results77,go_sem, *]) rfl ⟨by rw [<-HR.out];rfl,?_⟩;exact Km
structure Ql (w:World):Prop where
 c0:w.cell? ⟨0,0,none⟩=some (.int .i64 0)
 c1:w.cell? ⟨0,1,none⟩=some (.string ⟨#[]⟩)
theorem Ql.later {w w':World} (h:Ql w) (hb:Below w.heap.size w w'):Ql w':=⟨Ja hb h.c0,Ja hb h.c1⟩
theorem Jhu (l:List Va) (A:Option Addr) (cap:Nat) (s:ByteArray) (ok:Bool) (w:World) (hg:Ql w) (hl:Ju w l A cap) (hn:l.length<=1000000) :
  Calls Tryz.prog 113 #[.slice A l.length cap,.string s,.bool ok] w fun r w'=>r = .returned (.int .i64 (Jaw l s ok))/\Below w.heap.size w w':=by
 have ap:=fun W h=>Jg9 l A cap s W (hl.later h) hn;have hv:Jaw l s ok=Jaw l s ok:=rfl;rw (occs:= .pos [2]) [Jaw] at hv;obtain⟨a0,a1⟩:=hg;have eC:0<w.heap.size:=Nu a0
 cases hf:Xb l s with
 | none=>
  rw [hf] at hv ap;clear hf;have HV:=Nf hv;clear hv;unfold fcV vaV Jh8 at ap;dsimp only at ap
  go_enter Tryz.func113,Tryz.ntmps113
  go_wp2_with (first|(go_at_call 77;refine(ap _ Jb).mono ?_;rintro r w1 ⟨rfl,ac⟩;have ⟨ak,af⟩:=aft ac;(try simp at af);(try have go:0<w1.heap.size:=by omega)))
  go_ret;exact⟨Jm HV.out.symm,Jb⟩
 | some v=>
  rw [hf] at hv ap;clear hf;unfold fcV vaV at ap;dsimp only at ap hv;have fM:=Jbt;have dp:=fun w=>Zt v.ck v.cn 0 ⟨#[]⟩ w
  cases ok
  ·rw [Bool.false_and,if_neg Ul] at hv;have HV:=Nf hv;clear hv
   go_enter Tryz.func113,Tryz.ntmps113
   exact Ue9
  ·cases hq:K9 v.ck v.cn 0 ⟨#[]⟩
   ·rw [hq] at hv dp;rw [Bool.and_false,if_neg Ul] at hv;exact Ue8
   ·rw [hq] at hv dp;rw [Bool.and_true,if_pos rfl] at hv;exact Ue8
theorem Jpa (l:List Va) (A:Option Addr) (cap:Nat) (v:Va) (w:World) (hg:Ql w) (hl:Ju w l A cap) (hn:l.length<=1000000) :
  Calls Tryz.prog 76 #[.slice A l.length cap,vaV v] w fun r w'=>r = .returned (.int .i64 (Yc l v))/\Below w.heap.size w w':=by
 have ap:=fun W h=>Jg9 l A cap v.cn W (hl.later h) hn;have fM:=Jbt;have dp:=fun w=>Zt v.ck v.cn 0 ⟨#[]⟩ w;obtain⟨a0,a1⟩:=hg;have eC:0<w.heap.size:=Nu a0;have hv:Yc l v=if K9 v.ck v.cn 0 ⟨#[]⟩=true then 0 else(match Xb l v.cn with|none=>19|some c=>if c.type≠2 then 20 else if K9 c.ck c.cn 0 ⟨#[]⟩=true then 0 else 21):=by unfold Yc;rfl
 unfold vaV
 cases hq:K9 v.ck v.cn 0 ⟨#[]⟩
 case true=>
  rw [hq,if_pos rfl] at hv;rw [hq] at dp;clear hq;have HV:=Nf hv;clear hv
  go_enter Tryz.func76,Tryz.ntmps76
  exact Uc9
 rw [hq,if_neg Ul] at hv;rw [hq] at dp;clear hq
 cases hf:Xb l v.cn with
 | none=>
  rw [hf] at hv ap;clear hf;unfold fcV vaV Jh8 at ap;dsimp only at ap;have HV:=Nf hv;clear hv
  go_enter Tryz.func76,Tryz.ntmps76
  go_wp2_with (first|(go_at_call 77;refine(ap _ Jb).mono ?_;rintro r w1 ⟨rfl,ac⟩;have ⟨ak,af⟩:=aft ac;(try simp at af);(try have go:0<w1.heap.size:=by omega)))
  go_ret;exact⟨Jm HV.out.symm,Jb⟩
 | some c=>
  rw [hf] at hv ap;clear hf;unfold fcV vaV at ap;dsimp only at ap hv;have ri:=fun w=>Zt c.ck c.cn 0 ⟨#[]⟩ w
  cases ht:(c.type != 2)
  case true=>
   rw [if_pos (by simpa using ht)] at hv;have HV:=Nf hv;clear hv
   go_enter Tryz.func76,Tryz.ntmps76
   exact Ue9
  rw [if_neg (by simpa using ht)] at hv
  cases hq:K9 c.ck c.cn 0 ⟨#[]⟩
  ·rw [hq,if_neg Ul] at hv;exact Ue7
  ·rw [hq,if_pos rfl] at hv;exact Ue7
def OfP (l:List Va) (A:Option Addr) (cap:Nat) (x:Ex):Prop:=∀(Ae:Option Addr) (ce:Nat) (ck:Int) (cs:ByteArray) (W:World),Ql W->Jt W x Ae ce->Ju W l A cap->
  Calls Tryz.prog 78 #[.slice A l.length cap,exV x Ae ce,.agg #[.int .i64 ck,.string cs]] W fun r w'=>r = .returned (.int .i64 (x.clk l (ck,cs)))/\Below W.heap.size W w'
theorem Ji6 (l:List Va) (A:Option Addr) (cap:Nat) (e:Ex) (ih:∀x∈e.sub,OfP l A cap x) (Ae:Option Addr) (ce:Nat) (ck:Int) (cs:ByteArray) (w:World) (hg:Ql w) (he:Jt w e Ae ce) (hl:Ju w l A cap) :
  Calls Tryz.prog 114 #[.slice A l.length cap,.slice Ae e.sub.length ce,.agg #[.int .i64 ck,.string cs]] w fun r w'=>r = .returned (.int .i64 (Ex.clkL l e.sub (ck,cs) (ck,cs)))/\Below w.heap.size w w':=by
 have ai:=he.len;unfold maxLen at ai;obtain⟨jD,jE⟩:=ai
 go_enter Tryz.func114,Tryz.ntmps114
 go_wp2_with fail
 refine Jo fun W0 ag=>?_;have ax:=Nd w W0 Uo;have bD:w.heap.size<W0.heap.size:=La;have f0:=Na W0 w.heap.size 0 ck Uc;have f1:=Nb W0 w.heap.size 1 (.string cs) Uc;clear ag;replace hl:=hl.later ax;replace he:=he.later ax;replace hg:=hg.later ax
 go_loopw [12] (fun i wr=>∃k:Nat,k<=e.sub.length/\i = .int .i64 k/\Ex.clkL l (e.sub.drop k) (ck,cs) (ck,cs)=Ex.clkL l e.sub (ck,cs) (ck,cs)/\Below W0.heap.size W0 wr) (fun i _=>e.sub.length-(intOf i).toNat)
 case atStart=>exact⟨0,Np,rfl,rfl,Nt⟩
 case round=>
  obtain⟨k,hk,rfl,aa,ab⟩:=hrel;have hc:=Jg ab;have bu:=ab.size;have fF:=lt0 w wr
  by_cases am:k<e.sub.length
  ·obtain⟨x,hx,aj,hd⟩:=Kl am;obtain⟨b,off,A',cap',rfl,c0,c1,c2,c3,hs⟩:=(he.later ab).get hx;rw [hd,Ex.clkL] at aa;have ihx:=fun W h1 h2 h3=>ih x aj A' cap' ck cs W h1 h2 h3;unfold exV at ihx;clear hd hx aj ih
   by_cases hz:x.clk l (ck,cs)≠0
   ·rw [if_pos hz] at aa;have t1:(x.clk l (ck,cs) != 0)=true:=Mg;have HR:=Nf aa;clear aa hz;generalize x.clk l (ck,cs)=xc at *
    go_wp2_with (first|(go_at_call 78;refine mo (ihx _ (hg.later Jb) (hs.later Jb) (hl.later Jb)) fun w1 ac ak af bV=>?_;(try simp at af)))
    go_ret;exact⟨Jm HR.out,Jb⟩
   ·rw [if_neg hz] at aa;have t1:(x.clk l (ck,cs) != 0)=false:=Mg;have HR:=Nf aa;clear aa hz;generalize x.clk l (ck,cs)=xc at *
    go_wp2_with (first|(go_at_call 78;refine mo (ihx _ (hg.later Jb) (hs.later Jb) (hl.later Jb)) fun w1 ac ak af bV=>?_;(try simp at af)))
    exact Uc5
  ·have bk:k=e.sub.length:=Ua;rw [bk,Nn,Ex.clkL] at aa;have HR:=Nf aa;clear aa bk;exact Uda
theorem Jgh {l:List Va} {e:Ex} {c:Int×ByteArray} {f:Int} (h:Jac l e.kind e.name c.1 c.2=f) (hf:f≠0):e.clk l c=f:=by
 rw [Ex.clk_eq,h,if_pos hf]
theorem Jgg {l:List Va} {e:Ex} {c:Int×ByteArray} (h:Jac l e.kind e.name c.1 c.2=0):e.clk l c=Ex.clkL l e.sub (Jb3 e.kind e.name c) (Ja0 e.kind e.name c):=by
 rw [Ex.clk_eq,h,if_neg Ua]
theorem Jy4 (l:List Va) (A:Option Addr) (cap:Nat) (hn:l.length<=1000000) (e:Ex) (hf:e.formed=true) (ih:∀x∈e.sub,OfP l A cap x) (Ae:Option Addr) (ce:Nat) (ck:Int) (cs:ByteArray) (w:World) (hg:Ql w) (he:Jt w e Ae ce) (hl:Ju w l A cap)
  (hk:e.kind=3) :
  Calls Tryz.prog 78 #[.slice A l.length cap,exV e Ae ce,.agg #[.int .i64 ck,.string cs]] w fun r w'=>r = .returned (.int .i64 (e.clk l (ck,cs)))/\Below w.heap.size w w':=by
 have ap:=fun W h=>Jg9 l A cap e.name W (hl.later h) hn;have eF:=fun c s W h=>Ji6 l A cap e ih Ae ce c s W (hg.later h) (he.later h) (hl.later h);have bC:Jb3 e.kind e.name (ck,cs)=(ck,cs):=by unfold Jb3;rw [if_neg Ua,if_neg Ua]
 have bd:Ja0 e.kind e.name (ck,cs)=(ck,cs):=by unfold Ja0;rw [if_neg Ua,if_neg Ua]
 have t3:(e.kind == 3)=true:=Ud;have fM:=Jbt;clear hf ih;unfold exV
 cases jS:Xb l e.name with
 | none=>
  have ho:Jac l e.kind e.name ck cs=19:=by unfold Jac;rw [if_pos hk,jS]
  rw [jS] at ap;have hv:=Jgh (c:=(ck,cs)) ho Ua;clear jS ho bC bd hk;have HV:=Nf hv;clear hv;unfold fcV vaV Jh8 at ap;dsimp only at ap
  go_enter Tryz.func78,Tryz.ntmps78
  go_wp2_with fail
  go_region
  all_goals
   go_wp2_with (first|(go_at_call 77;refine(ap _ Jb).mono ?_;rintro r w1 ⟨rfl,ac⟩;have ⟨ak,af⟩:=aft ac;(try simp at af);(try have bV:=lt0 w w1);(try have gq:=ltA w 1 w1);(try have ow:=ltA w 2 w1);(try have ns:=lt0 wr w1);(try have nt:=ltA wr 1 w1);(try have lH:=ltA w 3 w1);(try have go:0<w1.heap.size:=by omega)))
   go_ret;exact⟨Jm HV.out.symm,Jb⟩
 | some v=>
  rw [jS] at ap;have dp:=fun w=>Zt v.ck v.cn ck cs w;unfold fcV vaV at ap;dsimp only at ap
  cases hq:K9 v.ck v.cn ck cs
  ·rw [hq] at dp;have ho:Jac l e.kind e.name ck cs=21:=by unfold Jac;rw [if_pos hk,jS];simp only [hq];rfl
   have hv:=Jgh (c:=(ck,cs)) ho Ul;clear jS ho bC bd hq hk;have HV:=Nf hv;clear hv
   go_enter Tryz.func78,Tryz.ntmps78
   go_wp2_with fail
   go_region
   all_goals
    go_wp2_with (first|(go_at_call 77;refine(ap _ Jb).mono ?_;rintro r w1 ⟨rfl,ac⟩;have ⟨ak,af⟩:=aft ac;(try simp at af);(try have bV:=lt0 w w1);(try have gq:=ltA w 1 w1);(try have ow:=ltA w 2 w1);(try have ns:=lt0 wr w1);(try have nt:=ltA wr 1 w1);(try have lH:=ltA w 3 w1);(try have go:0<w1.heap.size:=by omega)))
    go_ret;exact⟨Jm HV.out.symm,Jb⟩
  ·rw [hq] at dp;have ho:Jac l e.kind e.name ck cs=0:=by unfold Jac;rw [if_pos hk,jS];simp only [hq];rfl
   have hv:=Jgg (c:=(ck,cs)) ho;rw [bC,bd] at hv;clear jS ho bC bd hq hk;have HV:=Nf hv;clear hv
   go_enter Tryz.func78,Tryz.ntmps78
   go_wp2_with fail
   go_region
   all_goals
    go_wp2_with (first|(go_at_call 77;refine(ap _ Jb).mono ?_;rintro r w1 ⟨rfl,ac⟩;have ⟨ak,af⟩:=aft ac;(try simp at af);(try have bV:=lt0 w w1);(try have gq:=ltA w 1 w1);(try have ow:=ltA w 2 w1);(try have ns:=lt0 wr w1);(try have nt:=ltA wr 1 w1);(try have lH:=ltA w 3 w1);(try have go:0<w1.heap.size:=by omega))|(go_at_call 114;refine(eF _ _ _ Jb).mono ?_;rintro r w1 ⟨rfl,ac⟩;have ⟨ak,af⟩:=aft ac;(try simp at af);(try have bV:=lt0 w w1);(try have gq:=ltA w 1 w1);(try have ow:=ltA w 2 w1);(try have ns:=lt0 wr w1);(try have nt:=ltA wr 1 w1);(try have lH:=ltA w 3 w1);(try have go:0<w1.heap.size:=by omega)))
    go_ret;exact⟨Jm HV.out.symm,Jb⟩
theorem Jyd (l:List Va) (A:Option Addr) (cap:Nat) (hn:l.length<=1000000) (e:Ex) (hf:e.formed=true) (ih:∀x∈e.sub,OfP l A cap x) (Ae:Option Addr) (ce:Nat) (ck:Int) (cs:ByteArray) (w:World) (hg:Ql w) (he:Jt w e Ae ce) (hl:Ju w l A cap)
  (hk:e.kind=8) :
  Calls Tryz.prog 78 #[.slice A l.length cap,exV e Ae ce,.agg #[.int .i64 ck,.string cs]] w fun r w'=>r = .returned (.int .i64 (e.clk l (ck,cs)))/\Below w.heap.size w w':=by
 have rj:=fun W h=>Jhu l A cap e.name (K9 ck cs 1 e.name) W (hg.later h) (hl.later h) hn;have eF:=fun W h=>Ji6 l A cap e ih Ae ce 0 ⟨#[]⟩ W (hg.later h) (he.later h) (hl.later h);have ho:Jac l e.kind e.name ck cs=Jaw l e.name (K9 ck cs 1 e.name):=by unfold Jac;rw [hk];simp
 have bC:Jb3 e.kind e.name (ck,cs)=(0,⟨#[]⟩):=by unfold Jb3;rw [if_pos Ua]
 have bd:Ja0 e.kind e.name (ck,cs)=(0,⟨#[]⟩):=by unfold Ja0;rw [if_pos Ua]
 have t3:(e.kind == 3)=false:=Ud;have t8:(e.kind == 8)=true:=Ud;have t9:(e.kind == 9)=false:=Ud;have fM:=Jbt;have dp:=fun w=>Zt ck cs 1 e.name w;obtain⟨a0,a1⟩:=hg;have eC:0<w.heap.size:=Nu a0;clear hk hf ih;unfold exV;generalize K9 ck cs 1 e.name=bq at *;generalize sq:Jaw l e.name bq=tq at *
 by_cases hz:tq=0
 ·exact Ue5
 ·exact Ue6
theorem Juj (l:List Va) (A:Option Addr) (cap:Nat) (hn:l.length<=1000000) (e:Ex) (hf:e.formed=true) (ih:∀x∈e.sub,OfP l A cap x) (Ae:Option Addr) (ce:Nat) (ck:Int) (cs:ByteArray) (w:World) (hg:Ql w) (he:Jt w e Ae ce) (hl:Ju w l A cap)
  (hk:e.kind=9) :
  Calls Tryz.prog 78 #[.slice A l.length cap,exV e Ae ce,.agg #[.int .i64 ck,.string cs]] w fun r w'=>r = .returned (.int .i64 (e.clk l (ck,cs)))/\Below w.heap.size w w':=by
 have rj:=fun W h=>Jhu l A cap e.name (K9 ck cs 2 e.name) W (hg.later h) (hl.later h) hn;have eF:=fun W h=>Ji6 l A cap e ih Ae ce 0 ⟨#[]⟩ W (hg.later h) (he.later h) (hl.later h);have ho:Jac l e.kind e.name ck cs=Jaw l e.name (K9 ck cs 2 e.name):=by unfold Jac;rw [hk];simp
 have bC:Jb3 e.kind e.name (ck,cs)=(0,⟨#[]⟩):=by unfold Jb3;rw [if_pos Ua]
 have bd:Ja0 e.kind e.name (ck,cs)=(0,⟨#[]⟩):=by unfold Ja0;rw [if_pos Ua]
 have t3:(e.kind == 3)=false:=Ud;have t8:(e.kind == 8)=false:=Ud;have t9:(e.kind == 9)=true:=Ud;have fM:=Jbt;have dp:=fun w=>Zt ck cs 2 e.name w;obtain⟨a0,a1⟩:=hg;have eC:0<w.heap.size:=Nu a0;clear hk hf ih;unfold exV;generalize K9 ck cs 2 e.name=bq at *;generalize sq:Jaw l e.name bq=tq at *
 by_cases hz:tq=0
 ·exact Ue5
 ·exact Ue6
theorem Jwu (l:List Va) (A:Option Addr) (cap:Nat) (hn:l.length<=1000000) (e:Ex) (hf:e.formed=true) (ih:∀x∈e.sub,OfP l A cap x) (Ae:Option Addr) (ce:Nat) (ck:Int) (cs:ByteArray) (w:World) (hg:Ql w) (he:Jt w e Ae ce) (hl:Ju w l A cap)
  (hk:e.kind=10) :
  Calls Tryz.prog 78 #[.slice A l.length cap,exV e Ae ce,.agg #[.int .i64 ck,.string cs]] w fun r w'=>r = .returned (.int .i64 (e.clk l (ck,cs)))/\Below w.heap.size w w':=by
 have ai:=Jfj hf hk;have rj:=fun W h=>Jhu l A cap e.name (K9 ck cs 0 ⟨#[]⟩) W (hg.later h) (hl.later h) hn;have ho:Jac l e.kind e.name ck cs=Jaw l e.name (K9 ck cs 0 ⟨#[]⟩):=by unfold Jac;rw [hk];simp
 have bC:Jb3 e.kind e.name (ck,cs)=(1,e.name):=by unfold Jb3;rw [hk];simp
 have bd:Ja0 e.kind e.name (ck,cs)=(2,e.name):=by unfold Ja0;rw [hk];simp
 obtain⟨x,hx⟩:∃x,e.sub[0]?=some x:=⟨_,Ng Ua⟩;obtain⟨y,hy⟩:∃y,e.sub[1]?=some y:=⟨_,Ng Ua⟩
 have aT:e.sub = [x,y]:=by
  match hm:e.sub,ai with
  | [u,v],_=>
   rw [hm] at hx hy;simp at hx hy;rw [hx,hy]
 have bO:Ex.clkL l e.sub (1,e.name) (2,e.name)=if x.clk l (1,e.name)≠0 then x.clk l (1,e.name) else y.clk l (2,e.name):=by
  rw [aT];simp only [Ex.clkL]
  split
  ·exact Gd
  ·split
   ·exact Gd
   ·rename_i h;omega
 obtain⟨b,off,X,cx,rfl,c0,c1,c2,c3,dT⟩:=he.get hx;obtain⟨b',off',Y,cy,gr,d0,d1,d2,d3,oN⟩:=he.get hy;simp only [Option.some.injEq,Addr.mk.injEq,and_true] at gr;obtain⟨rfl,rfl⟩:=gr;simp only [Nat.zero_mul,Nat.one_mul,Nat.add_zero] at c0 c1 c2 c3 d0 d1 d2 d3;have ihx:=fun W h=>ih x (Ni hx) X cx 1 e.name W (hg.later h) (dT.later h) (hl.later h);have ihy:=fun W h=>ih y (Ni hy) Y cy 2 e.name W (hg.later h) (oN.later h) (hl.later h);have t3:(e.kind == 3)=false:=Ud;have t8:(e.kind == 8)=false:=Ud;have t9:(e.kind == 9)=false:=Ud;have t10:(e.kind == 10)=true:=Ud;have l0:0<e.sub.length:=Ua;have l2:1<e.sub.length:=Ua;have l1:(1:Int)<(e.sub.length:Int):=Ua;have fM:=Jbt;have dp:=fun w=>Zt ck cs 0 ⟨#[]⟩ w;obtain⟨a0,a1⟩:=hg;have eC:0<w.heap.size:=Nu a0;have gt:b<w.heap.size:=Nu c0;have hbz4:b<w.heap.size+4:=Ua;have hbz3:b<w.heap.size+3:=Ua;have hbz2:b<w.heap.size+2:=Ua;have kH:b<w.heap.size+1:=Ua;clear hk hf ih ai aT hx hy;unfold exV at *;generalize K9 ck cs 0 ⟨#[]⟩=bq at *;generalize sq:Jaw l e.name bq=tq at *
 by_cases hz:tq=0
 ·subst hz;have hv:=Jgg (c:=(ck,cs)) ho;rw [bC,bd,bO] at hv;generalize hxq:x.clk l (1,e.name)=xq at *;generalize wB:y.clk l (2,e.name)=yq at *;clear ho bC bd sq bO hxq wB
  by_cases hz:xq=0
  ·subst hz;rw [if_neg Ul] at hv;have HV:=Nf hv;clear hv
   go_enter Tryz.func78,Tryz.ntmps78
   go_wp2_with fail
   go_region
   all_goals
    go_wp2_with fail
    refine Jx Ug Ug (fun bj=>?_)
    repeat (quiet_step ((first|(go_at_call 113;exact Calls.regrown_of (rj _ Jb)))))
    refine wpQuiet_nil ?_;intro wq au;replace au:=qbo au;obtain⟨au,dA,bh⟩:=au;clear bj
    (try simp at bh)
    (try have oO:=lt0 w wq);(try have nw:=ltA w 1 wq);(try have kb:=ltA w 2 wq);(try have vq:=lt0 wr wq)
    (try have ox:0<wq.heap.size:=by omega);(try have lI:=ltA w 3 wq)
    have xE:b<wq.heap.size:=Ua;obtain⟨wp,rfl⟩:∃wp,wp=wq:=⟨wq,rfl⟩;have tF:=au;clear au
    go_wp2_with fail
    refine Jx Ug Ug (fun bj=>?_)
    repeat (quiet_step ((first|(go_at_call 78;exact Calls.regrown_of (ihx _ Jb)))))
    refine wpQuiet_nil ?_;intro wq au;replace au:=qbo au;obtain⟨au,dA,bh⟩:=au;clear bj
    (try simp at bh)
    (try have oO:=lt0 w wq);(try have nw:=ltA w 1 wq);(try have kb:=ltA w 2 wq);(try have vq:=lt0 wr wq)
    (try have ox:0<wq.heap.size:=by omega);(try have lI:=ltA w 3 wq)
    have tG:b<wq.heap.size:=Ua;obtain⟨wo,rfl⟩:∃wo,wo=wq:=⟨wq,rfl⟩;have hwo:=au;clear au
    go_wp2_with fail
    refine Jx Ug Ug (fun bj=>?_)
    repeat (quiet_step ((first|(go_at_call 78;exact Calls.regrown_of (ihy _ Jb)))))
    refine wpQuiet_nil ?_;intro wq au;replace au:=qbo au;obtain⟨au,dA,bh⟩:=au;clear bj
    (try simp at bh)
    (try have oO:=lt0 w wq);(try have nw:=ltA w 1 wq);(try have kb:=ltA w 2 wq);(try have vq:=lt0 wr wq)
    go_wp2_with fail
    go_ret;exact⟨Jm HV.out.symm,Jb⟩
  ·rw [if_pos hz] at hv;have t1:(xq != 0)=true:=Mg;clear hz;have HV:=Nf hv;clear hv
   go_enter Tryz.func78,Tryz.ntmps78
   go_wp2_with fail
   go_region
   all_goals
    go_wp2_with fail
    refine Jx Ug Ug (fun bj=>?_)
    repeat (quiet_step ((first|(go_at_call 113;exact Calls.regrown_of (rj _ Jb)))))
    refine wpQuiet_nil ?_;intro wq au;replace au:=qbo au;obtain⟨au,dA,bh⟩:=au;clear bj
    (try simp at bh)
    (try have oO:=lt0 w wq);(try have nw:=ltA w 1 wq);(try have kb:=ltA w 2 wq);(try have vq:=lt0 wr wq)
    (try have ox:0<wq.heap.size:=by omega);(try have lI:=ltA w 3 wq)
    have xE:b<wq.heap.size:=Ua;obtain⟨wp,rfl⟩:∃wp,wp=wq:=⟨wq,rfl⟩;have tF:=au;clear au
    go_wp2_with fail
    refine Jx Ug Ug (fun bj=>?_)
    repeat (quiet_step ((first|(go_at_call 78;exact Calls.regrown_of (ihx _ Jb)))))
    refine wpQuiet_nil ?_;intro wq au;replace au:=qbo au;obtain⟨au,dA,bh⟩:=au;clear bj
    (try simp at bh)
    (try have oO:=lt0 w wq);(try have nw:=ltA w 1 wq);(try have kb:=ltA w 2 wq);(try have vq:=lt0 wr wq)
    go_wp2_with fail
    go_ret;exact⟨Jm HV.out.symm,Jb⟩
 ·have hv:=Jgh (c:=(ck,cs)) ho hz;have t1:(tq != 0)=true:=Mg;clear ho bC bd sq hz bO;have HV:=Nf hv;clear hv
  go_enter Tryz.func78,Tryz.ntmps78
  go_wp2_with fail
  go_region
  all_goals
   go_wp2_with fail
   refine Jx Ug Ug (fun bj=>?_)
   repeat (quiet_step ((first|(go_at_call 113;exact Calls.regrown_of (rj _ Jb)))))
   refine wpQuiet_nil ?_;intro wq au;replace au:=qbo au;obtain⟨au,dA,bh⟩:=au;clear bj
   (try simp at bh)
   (try have oO:=lt0 w wq);(try have nw:=ltA w 1 wq);(try have kb:=ltA w 2 wq);(try have vq:=lt0 wr wq)
   (try have ox:0<wq.heap.size:=by omega);(try have lI:=ltA w 3 wq)
   go_wp2_with fail
   go_ret;exact⟨Jm HV.out.symm,Jb⟩
theorem Jxc (l:List Va) (A:Option Addr) (cap:Nat) (hn:l.length<=1000000) (e:Ex) (hf:e.formed=true) (ih:∀x∈e.sub,OfP l A cap x) (Ae:Option Addr) (ce:Nat) (ck:Int) (cs:ByteArray) (w:World) (hg:Ql w) (he:Jt w e Ae ce) (hl:Ju w l A cap)
  (hk:e.kind≠3/\e.kind≠8/\e.kind≠9/\e.kind≠10) :
  Calls Tryz.prog 78 #[.slice A l.length cap,exV e Ae ce,.agg #[.int .i64 ck,.string cs]] w fun r w'=>r = .returned (.int .i64 (e.clk l (ck,cs)))/\Below w.heap.size w w':=by
 have eF:=fun c s W h=>Ji6 l A cap e ih Ae ce c s W (hg.later h) (he.later h) (hl.later h);obtain⟨h3,h8,h9,bM⟩:=hk;have ho:Jac l e.kind e.name ck cs=0:=by unfold Jac;rw [if_neg h3,if_neg h8,if_neg h9,if_neg bM]
 have bC:Jb3 e.kind e.name (ck,cs)=(ck,cs):=by unfold Jb3;rw [if_neg Ua,if_neg Ua]
 have bd:Ja0 e.kind e.name (ck,cs)=(ck,cs):=by unfold Ja0;rw [if_neg Ua,if_neg Ua]
 have t3:(e.kind == 3)=false:=Sz;have t8:(e.kind == 8)=false:=Dp;have t9:(e.kind == 9)=false:=by simpa using h9
 have t10:(e.kind == 10)=false:=Fb;have hv:=Jgg (c:=(ck,cs)) ho;rw [bC,bd] at hv;clear ho bC bd hf ih h3 h8 h9 bM;unfold exV;have HV:=Nf hv;clear hv
 go_enter Tryz.func78,Tryz.ntmps78
 go_wp2_with fail
 go_region
 all_goals
  go_wp2_with (first|(go_at_call 114;refine(eF _ _ _ Jb).mono ?_;rintro r w1 ⟨rfl,ac⟩;have ⟨ak,af⟩:=aft ac;(try simp at af);(try have bV:=lt0 w w1);(try have gq:=ltA w 1 w1);(try have ow:=ltA w 2 w1);(try have ns:=lt0 wr w1);(try have nt:=ltA wr 1 w1);(try have lH:=ltA w 3 w1);(try have go:0<w1.heap.size:=by omega)))
  go_ret;exact⟨Jm HV.out.symm,Jb⟩
theorem Jp9 (W:World) (k n:Int) (s:ByteArray):Jt W (.mk k n s []) none 0:=by
 rw [Jao];exact⟨Ns _,U2,fun h=>absurd h (by simp [Ex.sub])⟩
theorem Jv2 (W:World):Ju W [] none 0:=⟨Ns _,U2,fun h=>absurd h Ul⟩
theorem Jxz (l:List Va) (A:Option Addr) (cap:Nat) (hn:l.length<=1000000) (e:Ex):e.formed=true->OfP l A cap e:=by
 induction e using Ex.ind with
 | h e ih=>
 intro hf Ae ce ck cs w hg he hl;have ih':∀x∈e.sub,OfP l A cap x:=fun x hx=>ih x hx (Q9 hf x hx)
 by_cases h3:e.kind=3
 ·exact Jy4 l A cap hn e hf ih' Ae ce ck cs w hg he hl h3
 by_cases h8:e.kind=8
 ·exact Jyd l A cap hn e hf ih' Ae ce ck cs w hg he hl h8
 by_cases h9:e.kind=9
 ·exact Juj l A cap hn e hf ih' Ae ce ck cs w hg he hl h9
 by_cases bM:e.kind=10
 ·exact Jwu l A cap hn e hf ih' Ae ce ck cs w hg he hl bM
 exact Jxc l A cap hn e hf ih' Ae ce ck cs w hg he hl ⟨h3,h8,h9,bM⟩
theorem Zr (a b c:Int) (w:World):(Op.equalIn 10000 34 (.agg #[.int .i64 a,.int .i64 b,.int .i64 c]) (.agg #[.int .i64 0,.int .i64 0,.int .i64 0])).run Tryz.prog w = .ok (a == 0 && b == 0 && c == 0) w:=by
 have hS:Tryz.prog.underlying 34=some (.struct (Tryz.prog.fieldsOf 34)):=Ug;have hp:Tryz.prog.stoodInHeld 34=false:=Ug;rw [show(10000:Nat)=9999+1 from rfl,run_equalIn_agg w 9999 34 _ _ hS hp];simp only [Program.fieldsOf,Tryz.underlying34];go_simp
 by_cases h1:a=0 <;> by_cases h2:b=0 <;> by_cases h3:c=0 <;> simp [h1,h2,h3]
theorem Jmg (p:Pr) (a:PrA) (w:World) (hp:Kr w p a) (n1:p.ins.length<=1000000) (n2:p.outs.length<=1000000) (n3:p.locals.length<=1000000) (n4:p.eqs.length<=1000000) (aN:J7 p≠(0,0,0)) :
  Calls Tryz.prog 45 #[prV p a] w fun r w'=>r = .returned (fV (J7 p))/\Below w.heap.size w w':=by
 have aV:=fun W h=>Jnk p a W (hp.later h) n1 n2 n3 n4
 have aS:((J7 p).1 == 0 && (J7 p).2.1 == 0 && (J7 p).2.2 == 0)=false:=by
  exact Ub8
 have dp:∀w,(Op.equalIn 10000 34 (.agg #[.int .i64 (J7 p).1,.int .i64 (J7 p).2.1,.int .i64 (J7 p).2.2]) (.agg #[.int .i64 0,.int .i64 0,.int .i64 0])).run Tryz.prog w = .ok false w:=fun w=>by rw [Zr,aS]
 have fM:Tryz.prog.eqGuardType Tryz.prog.depth 34=false:=Ug;clear aN aS;obtain⟨A1,c1,A2,c2,A3,c3,A4,c4⟩:=a;unfold prV fV at *;dsimp only at *;generalize (J7 p).1=k1 at *;generalize (J7 p).2.1=k2 at *;generalize (J7 p).2.2=k3 at *;clear hp
 go_enter Tryz.func45,Tryz.ntmps45
 go_wp2_with (first|(go_at_call 75;refine(aV _ Jb).mono ?_;rintro r w1 ⟨rfl,ac⟩;have ak:=Jg ac;have tH:=Jf ac;have af:=ac.size;(try simp at af);have bV:=alt ac))
 refine Nv (v:= .agg #[.int .i64 k1,.int .i64 k2,.int .i64 k3]) L5 rfl ⟨rfl,?_⟩;exact Km
def Yy (l:List Va):Nat->List Va->Option (Nat×Int)
 | _,[]=>none
 | k,v :: r=>if Yc l v≠0 then some (k,Yc l v) else Yy l (k+1) r
def Jcy (l:List Va) (s:ByteArray):Int×ByteArray:=match Xb l s with|some v=>(v.ck,v.cn)|none=>(0,⟨#[]⟩)
def Y7 (l:List Va):Nat->List Qe->Option (Nat×Int)
 | _,[]=>none
 | k,q :: r=>if q.e.clk l (Jcy l q.name)≠0 then some (k,q.e.clk l (Jcy l q.name)) else Y7 l (k+1) r
def Ji8 (r:Option (Nat×Int)):Int×Int×Int:=match r with|some (k,e)=>(3,(k:Int),e)|none=>(0,0,0)
def Jgx (p:Pr) (r:Option (Nat×Int)):Int×Int×Int:=match r with|some (k,e)=>(2,(k:Int),e)|none=>Ji8 (Y7 (Je p) 0 p.eqs)
def Qg (p:Pr):Int×Int×Int:=if J7 p≠(0,0,0) then J7 p else Jgx p (Yy (Je p) 0 (Je p))
theorem Jlm {p:Pr} (h:J7 p=(0,0,0)):K5 p=0/\(Je p).length<=24:=by
 unfold J7 at h
 by_cases he:K5 p≠0
 ·rw [if_pos he] at h;simp at h
 rw [if_neg he] at h
 by_cases hb:8<p.ins.length\/8<p.outs.length\/24<(Je p).length
 ·rw [if_pos hb] at h;simp at h
 exact⟨Decidable.not_not.1 he,Ua⟩
theorem Jl3 (p:Pr) (a:PrA) (w:World) (hg:Ql w) (hp:Kr w p a) (n1:p.ins.length<=1000000) (n2:p.outs.length<=1000000) (n3:p.locals.length<=1000000) (n4:p.eqs.length<=1000000) (aN:J7 p=(0,0,0)) :
  Calls Tryz.prog 45 #[prV p a] w fun r w'=>r = .returned (fV (Qg p))/\Below w.heap.size w w':=by
 have dD:Qg p=Jgx p (Yy (Je p) 0 (Je p)):=by unfold Qg;rw [if_neg (by rw [aN];simp)]
 obtain⟨lG,hL24⟩:=Jlm aN;have dn:=(X4 (Z5 lG)).2.2.2.2;have aV:=fun W h=>Jnk p a W (hp.later h) n1 n2 n3 n4;have aJ:=fun W h=>Jcv p a W (hp.later h) n1 n2 n3;rw [aN] at aV;have dp:∀w,(Op.equalIn 10000 34 (.agg #[.int .i64 0,.int .i64 0,.int .i64 0]) (.agg #[.int .i64 0,.int .i64 0,.int .i64 0])).run Tryz.prog w = .ok true w:=fun w=>So;have fM:Tryz.prog.eqGuardType Tryz.prog.depth 34=false:=Ug;clear aN lG;have jQ:=Nf dD;clear dD;have jR:=Nf dn;clear dn;have bT:=hp.eqs;have oM:=hp.eqs.len;obtain⟨A1,c1,A2,c2,A3,c3,A4,c4⟩:=a;unfold maxLen at oM;unfold prV fV at *;dsimp only at *;obtain⟨tC,tD⟩:=oM;have cM:Jgx p none=Ji8 (Y7 (Je p) 0 p.eqs):=rfl;have tE:=Nf cM;clear cM;generalize hL:Je p=L at *;clear hL hp
 go_enter Tryz.func45,Tryz.ntmps45
 go_wp2_with (first|(go_at_call 75;refine(aV _ Jb).mono ?_;rintro r wa ⟨rfl,aA⟩;have aW:=Jg aA;have bS:=Jf aA;have cN:w.heap.size+2<=wa.heap.size:=Ut;have dG:=lt0 w wa;have aX:=ltA w 1 wa)|(go_at_call 42;refine(aJ _ Jb).mono ?_;rintro r wb ⟨⟨A,cap,rfl,ae⟩,aH⟩;have el:=Jg aH;have mJ:=Jf aH;have dH:=aH.size;(try simp at dH);have cA:=lt0 w wb;have ep:=ltA w 1 wb;have cR:=Ju.of_own ae))
 refine Jo fun W0 ag=>?_;have ax:=Nd w W0 Uo;have bD:w.heap.size<W0.heap.size:=Lk;have af:w.heap.size+1<W0.heap.size:=Lk;have x4:=Nb W0 w.heap.size 4 (.slice A4 p.eqs.length c4) Uc;have f0:=Na W0 (w.heap.size+1) 0 0 Uc;have f1:=Na W0 (w.heap.size+1) 1 0 Uc;have f2:=Na W0 (w.heap.size+1) 2 0 Uc;have z0:=Nc W0 (w.heap.size+1) 0 Uc;have z1:=Nc W0 (w.heap.size+1) 1 Uc;have z2:=Nc W0 (w.heap.size+1) 2 Uc;have bE:Ju W0 L A cap:=by rw [ag];exact cR
 clear ag;replace bT:=bT.later ax;replace hg:=hg.later ax;clear aV aJ dp fM ae cR aW el bS mJ
 go_loopw [23] (fun i wr=>∃k:Nat,k<=L.length/\i = .int .i64 k/\Yy L k (L.drop k)=Yy L 0 L/\Below W0.heap.size W0 wr) (fun i _=>L.length-(intOf i).toNat)
 case atStart=>exact⟨0,Np,rfl,rfl,Nt⟩
 case round=>
  obtain⟨k,hk,rfl,aa,ab⟩:=hrel;have hc:=Jg ab;have eh:=Jf ab;have bu:=ab.size;have fF:=lt0 w wr;have fa:=ltA w 1 wr
  by_cases am:k<L.length
  ·have so:=fun(x:Va) W h=>Jpa L A cap x W ((hg.later ab).later h) ((bE.later ab).later h) Ua;obtain⟨x,hx,-,hd⟩:=Kl am;obtain⟨b,off,rfl,aH,⟨d0,d1,d2,d3⟩⟩:=(bE.later ab).get hx;rw [hd,Yy] at aa;have dy:=fun W h=>so x W h;clear so;unfold vaV at dy;clear hd hx;generalize Yc L x=de at *
   by_cases eD:de≠0
   ·rw [if_pos eD] at aa;have hv:Qg p=(2,(k:Int),de):=G0;have t1:(de != 0)=true:=G8;clear aa eD;have HV:=Nf hv;clear hv
    go_wp2_with (first|(go_at_call 76;refine(dy _ Jb).mono ?_;rintro r w1 ⟨rfl,ac⟩;have ak:=Jg ac;have db:=Jf ac;have eI:=ac.size;(try simp at eI);have bV:=lt0 w w1;have gq:=ltA w 1 w1))
    refine Nv (v:= .agg #[.int .i64 (2),.int .i64 ((k:Int)),.int .i64 (de)]) L5 rfl ⟨Vp,?_⟩;exact Km
   ·rw [if_neg eD] at aa;have t1:(de != 0)=false:=G8;have HR:=Nf aa;clear aa eD
    go_wp2_with (first|(go_at_call 76;refine(dy _ Jb).mono ?_;rintro r w1 ⟨rfl,ac⟩;have ak:=Jg ac;have db:=Jf ac;have eI:=ac.size;(try simp at eI);have bV:=lt0 w w1;have gq:=ltA w 1 w1))
    exact Uc5
  obtain rfl:k=L.length:=Ua;rw [Nn,Yy] at aa;have fC:Qg p=Ji8 (Y7 L 0 p.eqs):=by rw [jQ.out,<-aa];exact tE.out
  have ku:=Nf fC;clear fC aa
  go_wp2_with fail
  clear hc eh bu fF fa
  go_loopw [40] (fun i wr=>∃k:Nat,k<=p.eqs.length/\i = .int .i64 k/\Y7 L k (p.eqs.drop k)=Y7 L 0 p.eqs/\Below W0.heap.size W0 wr) (fun i _=>p.eqs.length-(intOf i).toNat)
  case atStart=>exact⟨0,Np,rfl,rfl,ab⟩
  case round=>
   clear ab;obtain⟨k,hk,rfl,aa,ab⟩:=hrel;have hc:=Jg ab;have eh:=Jf ab;have bu:=ab.size;have fF:=lt0 w wr;have fa:=ltA w 1 wr
   by_cases am:k<p.eqs.length
   ·obtain⟨q,hx,-,hd⟩:=Kl am;obtain⟨b,off,B1,n1,B2,n2,rfl,aH,⟨g0,g1,g2,g3,g4,g5,g6,g7,g8,g9,s1,s2⟩⟩:=(bT.later ab).get hx;rw [hd,Y7] at aa
    have hf:q.e.formed=true:=by
     have:=jR.out q (Ni hx);simp only [eqB,Bool.and_eq_true] at this;exact(Ex.right_zero.1 (by simpa using this.1.2)).2.2
    have ap:=fun W h=>Jg9 L A cap q.name W ((bE.later ab).later h) Ua;have ix:=fun ck cs W h=>Jxz L A cap Ua q.e hf B2 n2 ck cs W ((hg.later ab).later h) (s2.later h) ((bE.later ab).later h);unfold exV at ix;clear hd hx hf;have bO:Jcy L q.name=Jcy L q.name:=rfl;rw (occs:= .pos [2]) [Jcy] at bO
    cases eB:Xb L q.name with
    | none=>
     rw [eB] at bO ap;dsimp only at bO;rw [bO] at aa;have ix:=ix 0 ⟨#[]⟩;unfold fcV vaV Jh8 at ap;dsimp only at ap;clear bO eB;generalize q.e.clk L (0,⟨#[]⟩)=de at *
     by_cases eD:de≠0
     ·exact Bq
     ·exact Bz
    | some v=>
     rw [eB] at bO ap;dsimp only at bO;rw [bO] at aa;have ix:=ix v.ck v.cn;unfold fcV vaV at ap;dsimp only at ap;clear bO eB;generalize q.e.clk L (v.ck,v.cn)=de at *
     by_cases eD:de≠0
     ·exact Bq
     ·exact Bz
   obtain rfl:k=p.eqs.length:=Ua;rw [Nn,Y7] at aa;have hv:Qg p=(0,0,0):=Fk;clear aa;have HV:=Nf hv;clear hv
   go_wp2_with fail
   refine Nv (v:= .agg #[.int .i64 (0),.int .i64 (0),.int .i64 (0)]) L5 rfl ⟨Vp,?_⟩;exact Km
theorem Jhx (p:Pr) (a:PrA) (w:World) (hg:Ql w) (hp:Kr w p a) (n1:p.ins.length<=1000000) (n2:p.outs.length<=1000000) (n3:p.locals.length<=1000000) (n4:p.eqs.length<=1000000) :
  Calls Tryz.prog 45 #[prV p a] w fun r w'=>r = .returned (fV (Qg p))/\Below w.heap.size w w':=by
 by_cases aN:J7 p=(0,0,0)
 ·exact Jl3 p a w hg hp n1 n2 n3 n4 aN
 ·have hv:Qg p=J7 p:=by unfold Qg;rw [if_pos aN]
  rw [hv];exact Jmg p a w hp n1 n2 n3 n4 aN
end Go.Proofs.YtknfcamdfdfoeaaGreatDoor
