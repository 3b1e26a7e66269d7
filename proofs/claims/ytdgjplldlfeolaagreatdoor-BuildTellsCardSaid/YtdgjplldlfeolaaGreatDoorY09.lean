/- Lemmas. -/
import Derived.Test.YtdgjplldlfeolaaGreatDoorMac
import Derived.RegionTactic
import Derived.BigRegion
import Derived.Test.YtdgjplldlfeolaaGreatDoorY00
import Derived.Test.YtdgjplldlfeolaaGreatDoorY08
import Derived.WideKeyEntry
import Derived.OrdersHeld
import Derived.StillTail
import Derived.Test.YtdgjplldlfeolaaGreatDoorY04
import Derived.Laws.RangeString
set_option linter.unusedVariables false
set_option linter.unusedSimpArgs false
set_option maxRecDepth 100000
set_option maxHeartbeats 64000000
namespace Go.Proofs.YtdgjplldlfeolaaGreatDoor
open Go.RowKit Go.Sort
theorem Jy4 (l:List Va) (A:Option Addr) (cap:Nat) (hn:l.length<=1000000) (e:Ex) (hf:e.formed=true) (ih:∀x∈e.sub,OfP l A cap x) (Ae:Option Addr) (ce:Nat) (ck:Int) (cs:ByteArray) (w:World) (hg:Ql w) (he:Jt w e Ae ce) (hl:Ju w l A cap)
  (hk:e.kind=3) :
  Calls Tryz.prog 135 #[.slice A l.length cap,exV e Ae ce,.agg #[.int .i64 ck,.string cs]] w fun r w'=>r = .returned (.int .i64 (e.clk l (ck,cs)))/\Below w.heap.size w w':=by
 have ap:=fun W h=>Jg9 l A cap e.name W (hl.later h) hn;have eF:=fun c s W h=>Ji6 l A cap e ih Ae ce c s W (hg.later h) (he.later h) (hl.later h);have bC:Jb3 e.kind e.name (ck,cs)=(ck,cs):=by unfold Jb3;rw [if_neg Ua,if_neg Ua]
 have bd:Ja0 e.kind e.name (ck,cs)=(ck,cs):=by unfold Ja0;rw [if_neg Ua,if_neg Ua]
 have t3:(e.kind == 3)=true:=Uk;have fM:=Jbt;clear hf ih;unfold exV
 cases jS:Xb l e.name with
 | none=>
  have ho:Jac l e.kind e.name ck cs=19:=by unfold Jac;rw [if_pos hk,jS]
  rw [jS] at ap;have hv:=Jgh (c:=(ck,cs)) ho Ua;clear jS ho bC bd hk;have HV:=Nf hv;clear hv;unfold fcV vaV Jh8 at ap;dsimp only at ap
  go_enter Tryz.func135,Tryz.ntmps135
  go_wp2_with fail
  go_region
  all_goals
   go_wp2_with (first|(go_at_call 134;refine(ap _ Jb).mono ?_;rintro r w1 ⟨rfl,ac⟩;have ⟨ak,af⟩:=aft ac;(try simp at af);(try have bV:=lt0 w w1);(try have gq:=ltA w 1 w1);(try have ow:=ltA w 2 w1);(try have ns:=lt0 wr w1);(try have nt:=ltA wr 1 w1);(try have lH:=ltA w 3 w1);(try have go:0<w1.heap.size:=by omega)))
   go_ret;exact⟨Jm HV.out.symm,Jb⟩
 | some v=>
  rw [jS] at ap;have dp:=fun w=>Zt v.ck v.cn ck cs w;unfold fcV vaV at ap;dsimp only at ap
  cases hq:K9 v.ck v.cn ck cs
  ·rw [hq] at dp;have ho:Jac l e.kind e.name ck cs=21:=by unfold Jac;rw [if_pos hk,jS];simp only [hq];rfl
   have hv:=Jgh (c:=(ck,cs)) ho Uh;clear jS ho bC bd hq hk;have HV:=Nf hv;clear hv
   go_enter Tryz.func135,Tryz.ntmps135
   go_wp2_with fail
   go_region
   all_goals
    go_wp2_with (first|(go_at_call 134;refine(ap _ Jb).mono ?_;rintro r w1 ⟨rfl,ac⟩;have ⟨ak,af⟩:=aft ac;(try simp at af);(try have bV:=lt0 w w1);(try have gq:=ltA w 1 w1);(try have ow:=ltA w 2 w1);(try have ns:=lt0 wr w1);(try have nt:=ltA wr 1 w1);(try have lH:=ltA w 3 w1);(try have go:0<w1.heap.size:=by omega)))
    go_ret;exact⟨Jm HV.out.symm,Jb⟩
  ·rw [hq] at dp;have ho:Jac l e.kind e.name ck cs=0:=by unfold Jac;rw [if_pos hk,jS];simp only [hq];rfl
   have hv:=Jgg (c:=(ck,cs)) ho;rw [bC,bd] at hv;clear jS ho bC bd hq hk;have HV:=Nf hv;clear hv
   go_enter Tryz.func135,Tryz.ntmps135
   go_wp2_with fail
   go_region
   all_goals
    go_wp2_with (first|(go_at_call 134;refine(ap _ Jb).mono ?_;rintro r w1 ⟨rfl,ac⟩;have ⟨ak,af⟩:=aft ac;(try simp at af);(try have bV:=lt0 w w1);(try have gq:=ltA w 1 w1);(try have ow:=ltA w 2 w1);(try have ns:=lt0 wr w1);(try have nt:=ltA wr 1 w1);(try have lH:=ltA w 3 w1);(try have go:0<w1.heap.size:=by omega))|(go_at_call 145;refine(eF _ _ _ Jb).mono ?_;rintro r w1 ⟨rfl,ac⟩;have ⟨ak,af⟩:=aft ac;(try simp at af);(try have bV:=lt0 w w1);(try have gq:=ltA w 1 w1);(try have ow:=ltA w 2 w1);(try have ns:=lt0 wr w1);(try have nt:=ltA wr 1 w1);(try have lH:=ltA w 3 w1);(try have go:0<w1.heap.size:=by omega)))
    go_ret;exact⟨Jm HV.out.symm,Jb⟩
def X9 (w:World) (l:List (Int×Int)) (r:Ending) (w':World):Prop:=(∃v,r = .returned v/\w'.ownsRow w.heap.size 122 2 v l.length (cdC l))/\Below w.heap.size w w'
theorem Jak (op n:Int) (w:World):Calls Tryz.prog 103 #[.int .i64 op,.int .i32 n] w fun r w'=>(r = .returned (.slice (some ⟨w.heap.size,0,none⟩) 1 1)/\w'.ownsRow w.heap.size 122 2 (.slice (some ⟨w.heap.size,0,none⟩) 1 1) 1 (cdC [(op,n)]))/\Below w.heap.size w w':=by
 go_enter Tryz.func103,Tryz.ntmps103
 go_wp2_with fail
 go_ret;refine⟨⟨rfl,?_⟩,Jb⟩;exact⟨rfl,.inr ⟨w.heap.size,1,#[.int .i64 op,.int .i32 n],rfl,Ns _,heap_alloc_new w _,Ns _,Uo,rfl,rfl⟩⟩
theorem Jc0 (ps:List Jbv) (A:Option Addr) (cap:Nat) (w:World) (hp:Je1 w ps A) (hl:(Qu ps).length<=1000000) (h1:ps.length<=1000000) :
  Calls Tryz.prog 102 #[.slice A ps.length cap] w (X9 w (Qu ps)):=by
 unfold X9
 go_enter Tryz.func102,Tryz.ntmps102
 go_wp2_with fail
 go_loopw [3,8] (fun v i wr=>∃(k:Nat),k<=ps.length/\i = .int .i64 k/\wr.ownsRow w.heap.size 122 2 v (Qu (ps.take k)).length (cdC (Qu (ps.take k)))/\Below w.heap.size w wr) (fun _ i _=>ps.length-(intOf i).toNat)
 case atStart=>exact⟨0,Np,rfl,Nw,Nt⟩
 case round=>
  obtain⟨k,hk,rfl,ae,ab⟩:=hrel
  by_cases am:k<ps.length
  ·obtain⟨x,hx⟩:∃x,ps[k]?=some x:=⟨_,Ng am⟩;obtain⟨b,off,rfl,hc⟩:=(hp.later ab).1 Ua;have c0:=hc k x hx;have jT:=(hp.later ab).2 x (Ni hx);have aP:=Js3 hx;have gM:=@Jnv ps k;have tI:=@Jnv ps (k+1);rw [aP,Nk] at tI;obtain⟨xl,xA,xc⟩:=x;unfold Jbv.val at c0;dsimp only at *;have hz:=ab.size;have eZ:=Nf aP;clear aP;clear hc hx
   go_wp2_with (first|(at_builtin;go_loud (refine K6 rfl (.tmp 12) (.tmp 13) 27 rfl w.heap.size 122 _ 2 16 Tryz.underlying27 Qz rfl Ua _ (Qu (ps.take k)).length (cdC (Qu (ps.take k))) xA xl.length xc (cdC xl) rfl ae rfl jT.2.2 (Q2 _) Ua Ua Ua ?_;intro v2 w2 ao aq)))
   go_roundw
   case rel=>exact⟨k+1,Ua,Uw,by rw [eZ.out,Jbr,Nk];exact ao,ab.trans aq⟩
   case measure=>simp [intOf];omega
  ·obtain rfl:k=ps.length:=Ua;rw [List.take_length] at ae
   go_wp2_with fail
   go_ret;exact⟨⟨_,rfl,ae⟩,ab⟩
end Go.Proofs.YtdgjplldlfeolaaGreatDoor
namespace Go.Proofs.YtdgjplldlfeolaaGreatDoor
open Go.RowKit Go.Sort Go.Maps Go.ChangeMaps Go.WideMaps
section
variable {P:Program} {k e:TypeId} {q:IntKind} {K:Type} {ok:K->Prop} {kv:K->Value} {kl:K->Lit} {w:World}
theorem Jcb (ks:Jer P k ok kv kl) {t:TypeId} (ht:P.underlying t=some (.map k e)) (he:P.underlying e=some (.int q)) (hz:(zeroValue e).run P w = .ok (.int q 0) w)
  {b n:Nat} {f:K->Option Int} {c:Nat} {s:K} {x:Value} (hx:x=kv s) (ae:Q3 P k e q ok kl w b n f c) (hs:ok s) {r:Int} (hr:(f s).getD 0=r):(Instr.lookup t (.map (some b)) x false).run P w = .ok (.int q r) w:=by
 subst hx;obtain⟨D,h1,h2,_,h3⟩:=ae;obtain⟨c,eH,aY,lD⟩:=h1.lookup_int ks.keyed ht he hz (ks.read s hs);rw [(h3 s hs).2] at aY;have hc:(f s).getD 0=c:=Dm;rw [eH,<-hc,hr]
end
theorem Q3.drew {P:Program} {k e:TypeId} {q:IntKind} {K:Type} {ok:K->Prop} {kl:K->Lit} {w:World} {b n c:Nat} {f:K->Option Int} (h:Q3 P k e q ok kl w b n f c):Q3 P k e q ok kl w.drew b n f c:=h.bel (Jh (Nt))
structure Jld (R:Value->Option (DataW Unit×List MemPlace)) {V:Type} (okv:V->Prop) (vv:V->Value) (vl:V->Lit):Prop where
 read:∀v,okv v->R (vv v)=some (.lit (vl v),[])
 back:∀x v ps,okv v->R x=some (.lit (vl v),ps)->x=vv v
def Qd (P:Program) (k:TypeId) (R:Value->Option (DataW Unit×List MemPlace)) {K V:Type} (ok:K->Prop) (kl:K->Lit) (okv:V->Prop) (vl:V->Lit) (z:V) (w:World) (b n:Nat) (f:K->Option V) (c:Nat):Prop:=
 ∃D:DataW Unit,w.ownsMap P k R b n D/\Maps.Tidy D/\Maps.size D=c/\
  ∀x,ok x->(Maps.has D (kl x)=(f x).isSome/\D.atKey (kl x) (.lit (vl z)) = .lit (vl ((f x).getD z)))/\okv ((f x).getD z)
section
variable {P:Program} {k e:TypeId} {R:Value->Option (DataW Unit×List MemPlace)} {K V:Type} {ok:K->Prop} {kv:K->Value} {kl:K->Lit} {okv:V->Prop} {vv:V->Value} {vl:V->Lit} {z:V} {w w':World} {b n c:Nat} {f:K->Option V}
theorem Qd.made (hz:okv z) (w:World):Qd P k R ok kl okv vl z (w.alloc (.map #[] 0)) w.heap.size 0 (fun _=>none) 0:=
 ⟨.map [],World.ownsMap_made w P k _,Maps.tidy_empty,rfl,fun x _=>⟨⟨rfl,rfl⟩,hz⟩⟩
theorem Qd.lt (h:Qd P k R ok kl okv vl z w b n f c):b<w.heap.size:=by
 exact Ub7
theorem Qd.keep1 (h:Qd P k R ok kl okv vl z w b n f c) (hb:w'.heap[b]?=w.heap[b]?):Qd P k R ok kl okv vl z w' b n f c:=by
 exact Ubv
theorem Qd.bel (h:Qd P k R ok kl okv vl z w b n f c) (hb:Below w.heap.size w w'):Qd P k R ok kl okv vl z w' b n f c:=h.keep1 (hb.block b h.lt)
theorem Qd.drew (h:Qd P k R ok kl okv vl z w b n f c):Qd P k R ok kl okv vl z w.drew b n f c:=h.bel (Jh (Nt))
theorem Qd.more (h:Qd P k R ok kl okv vl z w b n f c) {m:Nat} (hm:n<=m):Qd P k R ok kl okv vl z w b m f c:=by
 obtain⟨D,h1,h2⟩:=h;exact⟨D,h1.mono hm,h2⟩
theorem Qd.same (h:Qd P k R ok kl okv vl z w b n f c) {g:K->Option V} (hg:∀x,ok x->g x=f x):Qd P k R ok kl okv vl z w b n g c:=by
 obtain⟨D,h1,h2,h3,h4⟩:=h;exact⟨D,h1,h2,h3,fun x hx=>by rw [hg x hx];exact h4 x hx⟩
theorem Ji1 (ks:Jer P k ok kv kl) (vs:Jld R okv vv vl) {t:TypeId} (ht:P.underlying t=some (.map k e)) (hz:(zeroValue e).run P w = .ok (vv z) w) (jB:okv z)
  {s:K} {x:Value} (hx:x=kv s) (ae:Qd P k R ok kl okv vl z w b n f c) (hs:ok s) {r:V} (hr:(f s).getD z=r):(Instr.lookup t (.map (some b)) x false).run P w = .ok (vv r) w:=by
 subst hx;obtain⟨D,h1,h2,_,h3⟩:=ae;obtain⟨v,ps,eH,hv⟩:=h1.lookup ks.keyed ht hz (vs.read z jB) (ks.read s hs);rw [(h3 s hs).1.2] at hv;rw [eH,vs.back v _ ps (h3 s hs).2 hv,hr]
theorem Qd.laid (ks:Jer P k ok kv kl) {D:DataW Unit} {s:K} (hs:ok s) {v:V} (hv:okv v) {m:Nat} (h2:Maps.Tidy D)
  (h3:Maps.size D=c) (h4:∀x,ok x->(Maps.has D (kl x)=(f x).isSome/\D.atKey (kl x) (.lit (vl z)) = .lit (vl ((f x).getD z)))/\okv ((f x).getD z))
  {f':K->Option V} (db:f' s=some v) (gO:∀y,ok y->y≠s->f' y=f y) (h5:w'.ownsMap P k R b m (D.put (kl s) (.lit (vl v)))):Qd P k R ok kl okv vl z w' b m f' (if (f s).isSome then c else c+1):=by
 have fR:WideAt.IsKeyLit (kl s):=ks.keyed.key (ks.read s hs);refine⟨_,h5,h2.put fR _,by rw [Maps.size_put h2,(h4 s hs).1.1,h3],fun y hy=>?_⟩
 by_cases oJ:y=s
 ·subst oJ;rw [has_put_same h2.isMap fR,atKey_put_same h2.isMap fR,db];exact⟨⟨rfl,rfl⟩,hv⟩
 ·have aS:kl y≠kl s:=fun h=>oJ (ks.inj y s hy hs h);rw [has_put_other aS,atKey_put_other aS,(h4 y hy).1.1,(h4 y hy).1.2,gO y hy oJ];exact⟨⟨rfl,rfl⟩,(h4 y hy).2⟩
theorem Qd.entry (ks:Jer P k ok kv kl) (kd:KeyLaw P k) (vs:Jld R okv vv vl) {t:TypeId} (ht:P.underlying t=some (.map k e)) (hz:∀u:World,(zeroValue e).run P u = .ok (vv z) u)
  {s:K} (ae:Qd P k R ok kl okv vl z w b n f c) (hs:ok s) (hn:n<1000000000) :
  ∃v0 st w1,(Instr.mapEntry t (.map (some b)) (kv s)).run P w = .ok (.tuple #[v0,st]) w1/\w.grownBy w1 (some b)/\w1.heap.size=w.heap.size/\
   ∀w2:World,w2.heap[b]?=w1.heap[b]?->∀v,okv v->∀f':K->Option V,f' s=some v->(∀y,ok y->y≠s->f' y=f y)->
    ∃w3,(Instr.entryStore t (.map (some b)) st (vv v)).run P w2 = .ok () w3/\Qd P k R ok kl okv vl z w3 b (n+1) f' (if (f s).isSome then c else c+1)/\w2.grownBy w3 (some b)/\w3.heap.size=w2.heap.size:=by
 obtain⟨D,h1,h2,h3,h4⟩:=ae;obtain⟨es,clock,hb,F,cE,hD⟩:=id h1;obtain⟨v0,st,es1,clock1,eH,_,cP⟩:=WideElems.entry_then_store kd ht hz hb F (ks.read s hs);refine⟨v0,goInt st,_,eH,⟨rfl,rfl,rfl,Dy,fun i _ hi=>heap_setBlock_other hb _ (fun e=>hi (by rw [e]))⟩,Dy,fun w2 sh v hv f' db gO=>?_⟩;rw [heap_setBlock_same hb] at sh;obtain⟨es',clock',fF,fa⟩:=cP w2 (vv v) sh;obtain⟨w',hu,h5,h6⟩:=h1.update ks.keyed ht Uo (ks.read s hs) (vs.read v hv);rw [fa] at hu;injection hu with _ hu;subst hu;refine⟨_,fF,(Qd.laid ks hs hv h2 h3 h4 db gO h5).keep1 ?_,⟨rfl,rfl,rfl,Dy,fun i _ hi=>heap_setBlock_other sh _ (fun e=>hi (by rw [e]))⟩,Dy⟩;rw [heap_setBlock_same sh,heap_setBlock_same hb]
end
theorem Jvi {P:Program} {e:TypeId} {q:IntKind} (he:P.underlying e=some (.int q)):Jld (plainElem P e) (fun i:Int=>(Lit.int q i).wf=true) (fun i=> .int q i) (fun i=> .int q i):=
 ⟨fun v hv=>plainElem_int he hv,fun x v ps hv h=>by
  obtain⟨a,rfl,h2,_⟩:=plainElem_int_inv he h;simp only [Prod.mk.injEq,DataW.lit.injEq,Lit.int.injEq,true_and] at h2;rw [h2.1]⟩
noncomputable def clkR (x:Value):Option (DataW Unit×List MemPlace):=by
 classical
 exact if h:∃c:Int×ByteArray,okC c/\x=kvC c then some (.lit (klC h.choose),[]) else none
theorem Jgn:Jld clkR okC kvC klC:=
 ⟨fun v hv=>by
  have h:∃c:Int×ByteArray,okC c/\kvC v=kvC c:=⟨v,hv,rfl⟩;unfold clkR;rw [dif_pos h];have h2:=h.choose_spec;generalize h.choose=c at h2 ⊢;obtain⟨_,h2⟩:=h2;unfold kvC at h2;injection h2 with h2;injection h2 with h2;injection h2 with h3 h4;injection h3 with _ h3;injection h4 with h4;injection h4 with h4;have:v=c:=Prod.ext h3 h4;rw [this],fun x v ps hv hx=>by
  unfold clkR at hx
  split at hx
  ·rename_i h;have h2:=h.choose_spec;simp at hx;rw [h2.2,Jrm h2.1 hv hx.1]
  ·cases hx⟩
end Go.Proofs.YtdgjplldlfeolaaGreatDoor
namespace Go.Proofs.YtdgjplldlfeolaaGreatDoor
open Go.RowKit Go.Sort Go.Maps Go.ChangeMaps Go.WideMaps Go.WideElems
theorem Jv6 {P:Program} {k:TypeId} (K:KeyLaw P k) {x:Value} {lx:Lit} (hx:keyOf P k x=some lx) (es:List MapEntry) (hk:∀e∈es,∃l,keyOf P k e.key=some l) (hn:(es.map (·.key)).Nodup) :
  (∀w:World,(Instr.findKey k x es).run P w = .ok none w)\/∃j e,(∀w:World,(Instr.findKey k x es).run P w = .ok (some (j,e.val)) w)/\es[j]?=some e/\e.key=x:=by
 by_cases h:∃e∈es,e.key=x
 ·obtain⟨e,he,xn⟩:=h;obtain⟨j,hj⟩:=List.getElem?_of_mem he;refine .inr ⟨j,e,fun w=>?_,hj,xn⟩
  rcases K.find w hx es hk with ⟨_,h2⟩|⟨j',e',h1,h2,h3⟩
  ·exact absurd xn (h2 e he)
  ·have e1:(es.map (·.key))[j]?=some x:=by rw [List.getElem?_map,hj];simp [xn]
   have e2:(es.map (·.key))[j']?=some x:=by rw [List.getElem?_map,h2];simp [h3]
   obtain⟨l1,g1⟩:=Nh e1;obtain⟨l2,g2⟩:=Nh e2;have:j=j':=(List.getElem_inj hn).1 (g1.trans g2.symm);subst this;rw [hj] at h2;injection h2 with h2;rw [h1,h2]
 ·refine .inl fun w=>?_
  rcases K.find w hx es hk with ⟨h1,_⟩|⟨j',e',_,h2,h3⟩
  ·exact h1
  ·exact absurd ⟨e',Ni h2,h3⟩ h
theorem Jt9 {P:Program} {t k e:TypeId} {R:Value->Option (DataW Unit×List MemPlace)} {b:Nat} {es:Array MapEntry} {clock:Nat} (K:KeyLaw P k) (ht:P.underlying t=some (.map k e)) {z:Value} (hz:∀u:World,(zeroValue e).run P u = .ok z u) (F:Fit P k R es clock)
  {key:Value} {kl:Lit} (rg:keyOf P k key=some kl):∃(v0:Value) (st:Nat) (es1:Array MapEntry) (clock1:Nat),∀W:World,W.heap[b]?=some (.map es clock)->
   (Instr.mapEntry t (.map (some b)) key).run P W = .ok (.tuple #[v0,goInt st]) (setBlock W b (.map es1 clock1)):=by
 rcases Jv6 K rg es.toList F.keys F.stamped.2.2 with h1|⟨j,e0,h1,h2,h3⟩
 ·exact⟨z,clock,es.push ⟨key,z,clock⟩,clock+1,fun W hb=>by
   simp [Instr.mapEntry,run_underlying ht,MapKept.run_getObj_map hb,K.check W false rg,h1,hz,MapKept.run_setObj_map _ hb,Result.andThen,setBlock]⟩
 ·have hj:es[j]?=some e0:=Lw
  have bF:es.modify j (fun e=>{e with key:=key})=es:=by
   apply Array.ext';rw [Array.toList_modify,modify_eq_set _ _ _ _ h2];have:({e0 with key:=key} : MapEntry)=e0:=by rw [<-h3]
   rw [this];exact set_self _ _ _ h2
  exact⟨e0.val,e0.born,es,clock,fun W hb=>by
   simp [Instr.mapEntry,run_underlying ht,MapKept.run_getObj_map hb,K.check W false rg,h1,hj,h3,K.stays W rg,bF,MapKept.run_setObj_map _ hb,Result.andThen,setBlock]⟩
section
variable {P:Program} {k e:TypeId} {R:Value->Option (DataW Unit×List MemPlace)} {K V:Type} {ok:K->Prop} {kv:K->Value} {kl:K->Lit} {okv:V->Prop} {vv:V->Value} {vl:V->Lit} {z:V} {w:World} {b n c:Nat} {f:K->Option V}
theorem Qd.steps (ks:Jer P k ok kv kl) (kd:KeyLaw P k) (vs:Jld R okv vv vl) {t:TypeId} (ht:P.underlying t=some (.map k e)) (hz:∀u:World,(zeroValue e).run P u = .ok (vv z) u)
  {s:K} (ae:Qd P k R ok kl okv vl z w b n f c) (hs:ok s) (hn:n<1000000000) {v:V} (hv:okv v) :
  ∃v0 st o0 o1 o2,w.heap[b]?=some o0/\(∀W:World,W.heap[b]?=some o0->(Instr.mapEntry t (.map (some b)) (kv s)).run P W = .ok (.tuple #[v0,.int .i64 st]) (setBlock W b o1))/\
   (∀W:World,W.heap[b]?=some o1->(Instr.entryStore t (.map (some b)) (.int .i64 st) (vv v)).run P W = .ok () (setBlock W b o2))/\
   (∀W:World,W.heap[b]?=some o0->(Instr.mapUpdate t (.map (some b)) (kv s) (vv v)).run P W = .ok () (setBlock W b o2))/\
   ∀W:World,W.heap[b]?=some o2->∀f':K->Option V,f' s=some v->(∀y,ok y->y≠s->f' y=f y)->Qd P k R ok kl okv vl z W b (n+1) f' (if (f s).isSome then c else c+1):=by
 obtain⟨D,h1,h2,h3,h4⟩:=ae;obtain⟨es,clock,hb,F,cE,hD⟩:=id h1;obtain⟨v0,st,es1,clock1,eH⟩:=Jt9 (b:=b) kd ht hz F (ks.read s hs);obtain⟨v0',st',es1',clock1',si,_,cP⟩:=WideElems.entry_then_store kd ht hz hb F (ks.read s hs);rw [eH w hb] at si;injection si with e1 e2
 have e3:(.map es1 clock1:Obj) = .map es1' clock1':=by
  have h5:=heap_setBlock_same hb (.map es1 clock1);rw [e2,heap_setBlock_same hb] at h5;injection h5 with h5;exact h5.symm
 injection e1 with e1;injection e1 with e1;injection e1 with e4 e5;injection e5 with e5;rw [<-e5,<-e3] at cP;obtain⟨w',hu,h5,h6⟩:=h1.update ks.keyed ht Uo (ks.read s hs) (vs.read v hv);obtain⟨es2,clock2,_,fa⟩:=cP (setBlock w b (.map es1 clock1)) (vv v) (heap_setBlock_same hb _)
 have oK:∀W:World,W.heap[b]?=some (.map es1 clock1)->(Instr.entryStore t (.map (some b)) (.int .i64 st) (vv v)).run P W = .ok () (setBlock W b (.map es2 clock2)):=fun W hW=>by
  obtain⟨es3,clock3,hr3,sj⟩:=cP W (vv v) hW;rw [fa] at sj;injection sj with _ sj;have h7:=heap_setBlock_same hb (.map es2 clock2);rw [sj,heap_setBlock_same hb] at h7;injection h7 with h7;rw [<-h7];exact hr3
 refine⟨v0,st,.map es clock,.map es1 clock1,.map es2 clock2,hb,eH,oK,fun W hW=>?_,fun W hW f' db gO=>?_⟩
 ·obtain⟨v8,st8,es8,clock8,sk,_,xu⟩:=WideElems.entry_then_store kd ht hz hW F (ks.read s hs);rw [eH W hW] at sk;injection sk with a1 a2
  have a3:(.map es1 clock1:Obj) = .map es8 clock8:=by
   have h5:=heap_setBlock_same hW (.map es1 clock1);rw [a2,heap_setBlock_same hW] at h5;injection h5 with h5;exact h5.symm
  injection a1 with a1;injection a1 with a1;injection a1 with a4 a5;injection a5 with a5;rw [<-a5,<-a3] at xu;obtain⟨es9,clock9,b1,b2⟩:=xu (setBlock W b (.map es1 clock1)) (vv v) (heap_setBlock_same hW _);have b3:=oK (setBlock W b (.map es1 clock1)) (heap_setBlock_same hW _);rw [show(goInt st:Value) = .int .i64 st from rfl] at b1;rw [b1] at b3;injection b3 with _ b3;have b4:=heap_setBlock_same (heap_setBlock_same hW (.map es1 clock1)) (.map es9 clock9);rw [b3,heap_setBlock_same (heap_setBlock_same hW (.map es1 clock1))] at b4;injection b4 with b4;rw [b2,b4]
 ·rw [fa] at hu;injection hu with _ hu;subst hu;exact(Qd.laid ks hs hv h2 h3 h4 db gO h5).keep1 (by rw [hW,heap_setBlock_same hb])
end
end Go.Proofs.YtdgjplldlfeolaaGreatDoor
namespace Go.Proofs.YtdgjplldlfeolaaGreatDoor
open Go.RowKit Go.Sort
structure J6 (S:Nat->Prop) (W W':World):Prop where
 os:W'.os=W.os
 tape:W'.tape=W.tape
 output:W'.output=W.output
 size:W.heap.size<=W'.heap.size
 block:∀k,k<W.heap.size->¬S k->W'.heap[k]?=W.heap[k]?
theorem J6.refl {S:Nat->Prop} (W:World):J6 S W W:=⟨rfl,rfl,rfl,Ns _,fun _ _ _=>rfl⟩
theorem J6.bel {S:Nat->Prop} {W W':World} (h:Below W.heap.size W W'):J6 S W W':=⟨h.os,h.tape,h.output,h.size,fun k hk _=>h.block k hk⟩
theorem J6.grown {S:Nat->Prop} {W W':World} {r:Option Nat} (h:W.grownBy W' r) (hr:∀k,r=some k->S k):J6 S W W':=
 ⟨h.os,h.tape,h.output,h.size,fun k hk hs=>h.block k hk fun he=>hs (hr k he.symm)⟩
theorem J6.trans {S T:Nat->Prop} {a b c:World} (h1:J6 S a b) (h2:J6 T b c) (hT:∀k,k<a.heap.size->T k->S k):J6 S a c:=
 ⟨h2.os.trans h1.os,h2.tape.trans h1.tape,h2.output.trans h1.output,Nat.le_trans h1.size h2.size,fun k hk hs=>
  (h2.block k (Nr hk h1.size) fun ht=>hs (hT k hk ht)).trans (h1.block k hk hs)⟩
theorem J6.trans' {S:Nat->Prop} {a b c:World} (h1:J6 S a b) (h2:J6 S b c):J6 S a c:=h1.trans h2 fun _ _ h=>h
theorem J6.less {S T:Nat->Prop} {a b:World} (h:J6 T a b) (hT:∀k,k<a.heap.size->T k->S k):J6 S a b:=(J6.refl a).trans h hT
theorem J6.setCell {S:Nat->Prop} {W W':World} (h:J6 S W W') {b:Nat} (hb:S b) (o:Nat) (u:Value):J6 S W (W'.setCell ⟨b,o,none⟩ u):=
 ⟨h.os,h.tape,h.output,by rw [show(W'.setCell ⟨b,o,none⟩ u).heap.size=W'.heap.size from by simp];exact h.size,fun k hk hs=>by
  rw [heap_setCell_other _ _ _ _ (by show k≠b;exact fun he=>hs (he ▸ hb))];exact h.block k hk hs⟩
theorem J6.below {S:Nat->Prop} {w W W':World} (h:Below w.heap.size w W) (hk:J6 S W W') (hs:∀k,k<w.heap.size->¬S k):Below w.heap.size w W':=
 ⟨hk.os.trans h.os,hk.tape.trans h.tape,hk.output.trans h.output,Nat.le_trans h.size hk.size,fun k hk'=>
  (hk.block k (Nr hk' h.size) (hs k hk')).trans (h.block k hk')⟩
theorem J6.cell {S:Nat->Prop} {W W':World} (h:J6 S W W') {b o:Nat} {v:Value} (hs:¬S b) (hc:W.cell? ⟨b,o,none⟩=some v):W'.cell? ⟨b,o,none⟩=some v:=
 Jr (h.block b (Nu hc) hs) hc
theorem J6.own {S:Nat->Prop} {W W':World} (h:J6 S W W') {base n size:Nat} {e:TypeId} {v:Value} {xs:List Value} (hs:∀b,v.ownBlock=some b->¬S b) (ho:W.ownsRow base e size v n xs):W'.ownsRow base e size v n xs:=by
 obtain⟨k,hk⟩:∃k,k=v.ownBlock:=⟨_,rfl⟩
 rcases ho with ⟨h1,h2⟩
 refine⟨h1,?_⟩
 rcases h2 with h2|⟨g,cap,os,hv,hb,hg,h3⟩
 ·exact .inl h2
 ·refine .inr ⟨g,cap,os,hv,hb,?_,h3⟩
  have am:g<W.heap.size:=by
   rcases Nat.lt_or_ge g W.heap.size with h4|h4
   ·exact h4
   ·rw [Array.getElem?_eq_none h4] at hg;cases hg
  rw [h.block g am (hs g (by rw [hv];rfl))];exact hg
theorem Jp6 {S:Nat->Prop} {base:Nat} {W W':World} {P:World->Prop} (h:Off base none W P) (hk:J6 S W W') (hs:∀k,base<=k->k<W.heap.size->¬S k):P W':=
 h W' fun k h1 h2 _=>hk.block k h2 (hs k h1 h2)
theorem sa1 {α:Type} {xs:List α} {i:Nat} {a:α} : xs.toArray.setIfInBounds i a=(xs.set i a).toArray:=List.setIfInBounds_toArray ..
theorem sa2 {α:Type} {a b:α} {l:List α} : (a :: l).set 0 b=b :: l:=List.set_cons_zero
theorem sa3 {α:Type} {a b:α} {l:List α} {n:Nat} : (a :: l).set (n+1) b=a :: l.set n b:=List.set_cons_succ
section
variable {P:Program} {ops:Array Oper} {Q:Exit->Act->World->Prop} {md:Region.Mode} {S:World->Prop}
def Jab (P:Program) (md:Region.Mode) (ops:Array Oper) (Q:Exit->Act->World->Prop) (S:World->Prop) (n g:Nat):Nat->Array Bool->Act->World->Prop
 | 0,listed,a,w=>(∀j∈Region.ready md ops listed,n<=j)/\wpAny P md ops Q g listed a w
 | f+1,listed,a,w=>Region.ready md ops listed≠[]/\∀i∈Region.ready md ops listed,wpOp P ops Q i (fun a' w'=>S w'/\Jab P md ops Q S n g f (listed.setIfInBounds i true) a' w') a w
theorem Jjy {n g:Nat} : ∀(f:Nat) (listed:Array Bool) (a:Act) (w:World),Jab P md ops Q S n g f listed a w->wpAny P md ops Q (f+g) listed a w
 | 0,listed,a,w,h=>by rw [Nat.zero_add];exact h.2
 | f+1,listed,a,w,h=>by
  rw [show f+1+g=(f+g)+1 by omega];exact⟨fun h0=>absurd h0 h.1,fun i hi=>wpOp_mono (fun a' w' h'=>Jjy f _ a' w' h'.2) (h.2 i hi)⟩
theorem Jsl {n g i:Nat} {oi:Oper} {v:Value} (hi:ops[i]?=some oi) (xv:∀(j:Nat) (o:Oper) cs b,ops[j]?=some o->o.op≠ .select cs b)
  (hs:Region.sinkB md ops n=true) (hc:Region.chainB md ops n=true) (hn:n<ops.size) (dV:i<n) (hQ:∀c a w,Q (.panic c) (a.put oi.dst v) w->Q (.panic c) a w) :
  ∀(f:Nat) (listed:Array Bool) (a:Act) (w:World),HeadInv md ops n listed->
   (∀j oj,ops[j]?=some oj->j≠i->listed.getD j true=false->(∀e∈oj.after,Region.binds md e=true->e.on≠i)->oi.apart ops oj=true)->
   i∈Region.ready md ops listed->YieldsIf P ops S oi v a->S w->
   Jab P md ops Q S n g f (listed.setIfInBounds i true) (a.put oi.dst v) w->Jab P md ops Q S n g (f+1) listed a w:=by
 intro f
 induction f with
 | zero=>
  intro listed a w inv _ hr hy hS H;have gG:=(mem_ready.1 hr).1;refine⟨fun h=>(by rw [h] at hr;cases hr),fun j hj=>?_⟩
  have hjn:j<n:=by
   exact Ubg
  by_cases jO:j=i
  ·subst jO;exact hy.wpOp hi hS ⟨hS,H⟩
  ·have:=H.1 j (ready_mono hj jO);exact Ua
 | succ f ih=>
  intro listed a w inv sm hr hy hS H;have gG:=(mem_ready.1 hr).1;refine⟨fun h=>(by rw [h] at hr;cases hr),fun j hj=>?_⟩
  have hjn:j<n:=by
   exact Ubg
  by_cases jO:j=i
  ·subst jO;exact hy.wpOp hi hS ⟨hS,H⟩
  ·have h1:=H.2 j (ready_mono hj jO);obtain⟨xw,oj,hoj,eF⟩:=mem_ready.1 hj
   have hnot:∀e∈oj.after,Region.binds md e=true->e.on≠i:=fun e he hb ou=>by
    have h2:=eF e he hb;rw [ou,getD_both gG] at h2
    cases h2
   have h2:=wpOp_putIf hoj (sm j oj hoj jO xw hnot) (fun cs b=>xv i oi cs b hi) (fun cs b=>xv j oj cs b hoj) hQ hy h1;refine wpOp_mono (fun a' w' h3=>⟨h3.2.1,ih (listed.setIfInBounds j true) a' w' (inv.set hj hjn) (fun k ok hk hki hku oG=>sm k ok hk hki ?_ oG) (ready_mono hr (Ne.symm jO)) h3.1 h3.2.1 ?_⟩) h2
   ·by_cases tB:j=k
    ·subst tB;exact xw
    ·rw [getD_set_ne true tB] at hku;exact hku
   ·rw [Array.setIfInBounds_comm _ _ jO];exact h3.2.2
def Jlx (md:Region.Mode) (ops:Array Oper) (n:Nat) (listed:Array Bool):Bool:=
 (listed.size == ops.size) && (List.range ops.size).all (fun j=>!listed.getD j false || (match ops[j]? with|some o=>o.after.all (fun e=>!Region.binds md e || listed.getD e.on false)|none=>true)) &&
  (List.range ops.size).all (fun t=>decide (t<n) || !listed.getD t true)
theorem Jqn {n:Nat} {listed:Array Bool} (h:Jlx md ops n listed=true):HeadInv md ops n listed:=by
 simp only [Jlx,Bool.and_eq_true,beq_iff_eq,List.all_eq_true,List.mem_range] at h;obtain⟨⟨h1,h2⟩,h3⟩:=h;refine⟨h1,fun j oj hj hl e he hb=>?_,fun t ht am=>?_⟩
 ·have h4:=h2 j (Array.getElem?_eq_some_iff.1 hj).1;rw [hl,hj] at h4;simp only [Bool.not_true,Bool.false_or,Array.all_eq_true_iff_forall_mem] at h4;have h5:=h4 e he;rw [hb] at h5;simpa using h5
 ·have h4:=h3 t am;rw [show decide (t<n)=false from by simpa using ht] at h4;simpa using h4
theorem Jt1 {n g i:Nat} {oi:Oper} {v:Value} {f:Nat} {listed:Array Bool} {a:Act} {w:World} (hi:ops[i]?=some oi)
  (fE:Region.noSelect ops=true) (hs:Region.sinkB md ops n=true) (hc:Region.chainB md ops n=true) (hn:decide (n<ops.size)=true) (dV:decide (i<n)=true)
  (hv:Jlx md ops n listed=true) (hf:Region.free md ops listed i=true) (hr:(Region.ready md ops listed).contains i=true)
  (hQ:∀c a w,Q (.panic c) (a.put oi.dst v) w->Q (.panic c) a w) (hy:YieldsIf P ops S oi v a) (hS:S w)
  (h:Jab P md ops Q S n g f (listed.setIfInBounds i true) (a.put oi.dst v) w):Jab P md ops Q S n g (f+1) listed a w:=
 Jsl hi (Region.noSelect_spec fE) hs hc (of_decide_eq_true hn) (of_decide_eq_true dV) hQ f listed a w (Jqn hv) (Region.free_spec hi hf) Fp hy hS h
theorem Jv9 {n g i:Nat} {oi:Oper} {f:Nat} {listed:Array Bool} {a:Act} {w:World} (hr:Region.ready md ops listed = [i]) (hi:ops[i]?=some oi) (hg:oi.guard=none)
  (h:oi.wp P a w (fun a' w'=>S w'/\Jab P md ops Q S n g f (listed.setIfInBounds i true) a' w') Q):Jab P md ops Q S n g (f+1) listed a w:=by
 refine⟨fun h0=>G4,fun j hj=>?_⟩;rw [hr] at hj;obtain rfl:=List.mem_singleton.1 hj;unfold wpOp;have hw:Region.wanted oi (yielded ops a.tmps)=true:=Gw;simp only [hi,hw,if_true];exact .inl h
theorem Ji {n g:Nat} (i:Nat) {oi:Oper} {v:Value} {f:Nat} {listed:Array Bool} {a a':Act} {w:World} (hS:S w) (h:Jab P md ops Q S n g f (listed.setIfInBounds i true) a' w)
  (hi:ops[i]?=some oi:=by simp only [List.getElem?_toArray,List.getElem?_cons_succ,List.getElem?_cons_zero];rfl) (eH:∀w,S w->(execOp a.eval oi).run P w = .ok (.value v) w:=by intro w' hSw;go_simp;first|done|with_reducible rfl)
  (iF:a.put oi.dst v=a':=by simp only [Act.put,List.setIfInBounds_toArray,List.set_cons_zero,List.set_cons_succ];first|done|rfl)
  (fE:Region.noSelect ops=true:=by kernel_rfl) (hs:Region.sinkB md ops n=true:=by kernel_rfl) (hc:Region.chainB md ops n=true:=by kernel_rfl) (hn:decide (n<ops.size)=true:=by kernel_rfl) (dV:decide (i<n)=true:=by kernel_rfl)
  (hv:Jlx md ops n listed=true:=by kernel_rfl) (hf:Region.free md ops listed i=true:=by kernel_rfl) (hr:(Region.ready md ops listed).contains i=true:=by kernel_rfl)
  (hQ:∀c a w,Q (.panic c) (a.put oi.dst v) w->Q (.panic c) a w:=by intro _ _ _ h;exact h) (hw:Region.wanted oi (yielded ops a.tmps)=true:=by rfl):Jab P md ops Q S n g (f+1) listed a w:=
 Jt1 hi fE hs hc hn dV hv hf hr hQ (.inl ⟨hw,eH⟩) hS (iF ▸ h)
theorem Kb {n g:Nat} (i:Nat) {oi:Oper} {f:Nat} {listed:Array Bool} {a:Act} {w:World} (h:oi.wp P a w (fun a' w'=>S w'/\Jab P md ops Q S n g f (listed.setIfInBounds i true) a' w') Q)
  (hr:Region.ready md ops listed = [i]:=by kernel_rfl) (hi:ops[i]?=some oi:=by simp only [List.getElem?_toArray,List.getElem?_cons_succ,List.getElem?_cons_zero];rfl) (hg:oi.guard=none:=by rfl):Jab P md ops Q S n g (f+1) listed a w:=
 Jv9 hr hi hg h
theorem Kh {n g:Nat} {listed:Array Bool} {a:Act} {w:World} (hr:Region.ready md ops listed = [n]) (h:wpAny P md ops Q g listed a w):Jab P md ops Q S n g 0 listed a w:=
 ⟨fun j hj=>by rw [hr] at hj;rw [List.mem_singleton.1 hj];exact Ns _,h⟩
theorem Jt0 {g i:Nat} {oi:Oper} {listed:Array Bool} {a:Act} {w:World} (hr:Region.ready md ops listed = [i]) (hi:ops[i]?=some oi) (hg:oi.guard=none)
  (h:oi.wp P a w (wpAny P md ops Q g (listed.setIfInBounds i true)) Q):wpAny P md ops Q (g+1) listed a w:=by
 refine⟨fun h0=>G4,fun j hj=>?_⟩;rw [hr] at hj;obtain rfl:=List.mem_singleton.1 hj;unfold wpOp;have hw:Region.wanted oi (yielded ops a.tmps)=true:=Gw;simp only [hi,hw,if_true];exact .inl h
theorem Qx {g:Nat} (i:Nat) {oi:Oper} {listed:Array Bool} {a:Act} {w:World} (h:oi.wp P a w (wpAny P md ops Q g (listed.setIfInBounds i true)) Q)
  (hr:Region.ready md ops listed = [i]:=by kernel_rfl) (hi:ops[i]?=some oi:=by simp only [List.getElem?_toArray,List.getElem?_cons_succ,List.getElem?_cons_zero];rfl) (hg:oi.guard=none:=by rfl):wpAny P md ops Q (g+1) listed a w:=
 Jt0 hr hi hg h
theorem Ki {listed:Array Bool} {a:Act} {w:World} (hr:Region.ready md ops listed = []) (h:Q .normal a w):wpAny P md ops Q 0 listed a w:=⟨hr,h⟩
theorem Kd (S:World->Prop) (n g:Nat) {id:Nat} {a:Act} {w:World} (hm:P.follows .mixedOrders=true) (cE:ops.size=n+g)
  (h:Jab P .any ops Q S n g n (Array.replicate ops.size false) a w.drew):(Code.region id ops true).wp P Q a w:=by
 refine wp_region_any hm ?_;rw [show ops.size=n+g from cE] at h ⊢;exact Jjy n _ a _ h
theorem Jj {o:Oper} {a:Act} {w:World} {K:Act->World->Prop} (h:∀K':Act->World->Prop,(∀a w,K a w->K' a w)->o.wp P a w K' Q):o.wp P a w K Q:=h K fun _ _ h=>h
theorem Zc {Q:Exit->Act->World->Prop} {e:Exit} {a:Act} {W:World} (h:∀W0,W0=W->Q e a W0):Q e a W:=h W rfl
theorem Jgr {g:Nat} {listed:Array Bool} {a:Act} {w:World} (h:∀W0,W0=w->wpAny P md ops Q g listed a W0):wpAny P md ops Q g listed a w:=h w rfl
theorem Ys {n g f:Nat} {listed:Array Bool} {a:Act} {w:World} (h:∀W0,W0=w->Jab P md ops Q S n g f listed a W0):Jab P md ops Q S n g f listed a w:=h w rfl
end
theorem Xi (W:World) (p:Addr):W.drew.cell? p=W.cell? p:=rfl
theorem Jdn (W:World) (p:Addr):W.drew.frozen? p=W.frozen? p:=rfl
theorem J5 (W:World) (b o j:Nat) (v:Value) (h:j≠o):(W.setCell ⟨b,o,none⟩ v).cell? ⟨b,j,none⟩=W.cell? ⟨b,j,none⟩:=World.cell?_setCell_other _ _ _ _ (by intro he;injection he with e1 e2;first|exact h e2|exact h e2.symm)
theorem Qm (W:World) (b o c j:Nat) (v:Value) (h:c≠b):(W.setCell ⟨b,o,none⟩ v).cell? ⟨c,j,none⟩=W.cell? ⟨c,j,none⟩:=World.cell?_setCell_other _ _ _ _ (by intro he;injection he with e1 e2;first|exact h e1|exact h e1.symm)
theorem Jp5 {W:World} {b:Nat} {u0 u1 u2:Value} (v0 v1 v2:Value) (h0:W.cell? ⟨b,0,none⟩=some u0) (h1:W.cell? ⟨b,1,none⟩=some u1) (h2:W.cell? ⟨b,2,none⟩=some u2) :
  (((W.setCell ⟨b,0,none⟩ v0).setCell ⟨b,1,none⟩ v1).setCell ⟨b,2,none⟩ v2).cell? ⟨b,0,none⟩=some v0/\(((W.setCell ⟨b,0,none⟩ v0).setCell ⟨b,1,none⟩ v1).setCell ⟨b,2,none⟩ v2).cell? ⟨b,1,none⟩=some v1/\(((W.setCell ⟨b,0,none⟩ v0).setCell ⟨b,1,none⟩ v1).setCell ⟨b,2,none⟩ v2).cell? ⟨b,2,none⟩=some v2:=by
 refine⟨?_,?_,?_⟩
 ·rw [J5 _ _ _ _ _ Ug,J5 _ _ _ _ _ Ug];exact Nx _ _ _ h0
 ·rw [J5 _ _ _ _ _ Ug];exact Nx _ _ _ Ucx
 ·exact Nx _ _ _ Ucg
theorem Qy {W:World} {b:Nat} (v0 v1 v2:Value) {c j:Nat} (h:c≠b):(((W.setCell ⟨b,0,none⟩ v0).setCell ⟨b,1,none⟩ v1).setCell ⟨b,2,none⟩ v2).cell? ⟨c,j,none⟩=W.cell? ⟨c,j,none⟩:=by rw [Qm _ _ _ _ _ _ h,Qm _ _ _ _ _ _ h,Qm _ _ _ _ _ _ h]
theorem Jev {W:World} {b:Nat} (v0 v1 v2:Value) (p:Addr):(((W.setCell ⟨b,0,none⟩ v0).setCell ⟨b,1,none⟩ v1).setCell ⟨b,2,none⟩ v2).frozen? p=W.frozen? p:=by rw [World.frozen?_setCell,World.frozen?_setCell,World.frozen?_setCell]
theorem Jsy {W:World} {b:Nat} {u0 u1 u2 u3 u4:Value} (v0 v1 v2 v3 v4:Value) (h0:W.cell? ⟨b,0,none⟩=some u0) (h1:W.cell? ⟨b,1,none⟩=some u1) (h2:W.cell? ⟨b,2,none⟩=some u2) (h3:W.cell? ⟨b,3,none⟩=some u3) (h4:W.cell? ⟨b,4,none⟩=some u4) :
  (((((W.setCell ⟨b,0,none⟩ v0).setCell ⟨b,1,none⟩ v1).setCell ⟨b,2,none⟩ v2).setCell ⟨b,3,none⟩ v3).setCell ⟨b,4,none⟩ v4).cell? ⟨b,0,none⟩=some v0/\(((((W.setCell ⟨b,0,none⟩ v0).setCell ⟨b,1,none⟩ v1).setCell ⟨b,2,none⟩ v2).setCell ⟨b,3,none⟩ v3).setCell ⟨b,4,none⟩ v4).cell? ⟨b,1,none⟩=some v1/\(((((W.setCell ⟨b,0,none⟩ v0).setCell ⟨b,1,none⟩ v1).setCell ⟨b,2,none⟩ v2).setCell ⟨b,3,none⟩ v3).setCell ⟨b,4,none⟩ v4).cell? ⟨b,2,none⟩=some v2/\(((((W.setCell ⟨b,0,none⟩ v0).setCell ⟨b,1,none⟩ v1).setCell ⟨b,2,none⟩ v2).setCell ⟨b,3,none⟩ v3).setCell ⟨b,4,none⟩ v4).cell? ⟨b,3,none⟩=some v3/\(((((W.setCell ⟨b,0,none⟩ v0).setCell ⟨b,1,none⟩ v1).setCell ⟨b,2,none⟩ v2).setCell ⟨b,3,none⟩ v3).setCell ⟨b,4,none⟩ v4).cell? ⟨b,4,none⟩=some v4:=by
 refine⟨?_,?_,?_,?_,?_⟩
 ·rw [J5 _ _ _ _ _ Ug,J5 _ _ _ _ _ Ug,J5 _ _ _ _ _ Ug,J5 _ _ _ _ _ Ug];exact Nx _ _ _ h0
 ·rw [J5 _ _ _ _ _ Ug,J5 _ _ _ _ _ Ug,J5 _ _ _ _ _ Ug];exact Nx _ _ _ Ucx
 ·rw [J5 _ _ _ _ _ Ug,J5 _ _ _ _ _ Ug];exact Nx _ _ _ Ucg
 ·rw [J5 _ _ _ _ _ Ug];exact Nx _ _ _ Uci
 ·exact Nx _ _ _ (by rw [J5 _ _ _ _ _ Ug,J5 _ _ _ _ _ Ug,J5 _ _ _ _ _ Ug,J5 _ _ _ _ _ Ug];exact h4)
theorem Q8 {W:World} {b:Nat} (v0 v1 v2 v3 v4:Value) {c j:Nat} (h:c≠b):(((((W.setCell ⟨b,0,none⟩ v0).setCell ⟨b,1,none⟩ v1).setCell ⟨b,2,none⟩ v2).setCell ⟨b,3,none⟩ v3).setCell ⟨b,4,none⟩ v4).cell? ⟨c,j,none⟩=W.cell? ⟨c,j,none⟩:=by rw [Qm _ _ _ _ _ _ h,Qm _ _ _ _ _ _ h,Qm _ _ _ _ _ _ h,Qm _ _ _ _ _ _ h,Qm _ _ _ _ _ _ h]
theorem Ji7 {W:World} {b:Nat} (v0 v1 v2 v3 v4:Value) (p:Addr):(((((W.setCell ⟨b,0,none⟩ v0).setCell ⟨b,1,none⟩ v1).setCell ⟨b,2,none⟩ v2).setCell ⟨b,3,none⟩ v3).setCell ⟨b,4,none⟩ v4).frozen? p=W.frozen? p:=by rw [World.frozen?_setCell,World.frozen?_setCell,World.frozen?_setCell,World.frozen?_setCell,World.frozen?_setCell]
theorem Qq {m:Nat} {w W:World} {b:Nat} (v0 v1 v2:Value) (h:Below m w W) (hb:m<=b):Below m w (((W.setCell ⟨b,0,none⟩ v0).setCell ⟨b,1,none⟩ v1).setCell ⟨b,2,none⟩ v2):=(Below.setCell (Below.setCell (Below.setCell h hb _) hb _) hb _)
theorem Jdj {m:Nat} {w W:World} {b:Nat} (v0 v1 v2 v3 v4:Value) (h:Below m w W) (hb:m<=b):Below m w (((((W.setCell ⟨b,0,none⟩ v0).setCell ⟨b,1,none⟩ v1).setCell ⟨b,2,none⟩ v2).setCell ⟨b,3,none⟩ v3).setCell ⟨b,4,none⟩ v4):=(Below.setCell (Below.setCell (Below.setCell (Below.setCell (Below.setCell h hb _) hb _) hb _) hb _) hb _)
end Go.Proofs.YtdgjplldlfeolaaGreatDoor
namespace Go.Proofs.YtdgjplldlfeolaaGreatDoor
open Go.RowKit
structure Fr where
 s:Int
 o:Int
 n:Int
 i:Int
 u:Int
def inB (n m:Int):Bool:=decide (0<=n) && decide (n<=m)
def Fr.good (f:Fr):Bool:=inB f.s 24 && inB f.o 16 && inB f.n 16 && inB f.i 8 && inB f.u 8
def Qp (op:Int):Int:=if op=1 then 4 else if op=10\/op=11 then 2 else if 1<op/\op<10 then 1 else 0
def Qj (i:Int×Int):Int:=
 if Qp i.1=0 then 9
 else if Qp i.1=4 then 0
 else if i.1=8/\(i.2<1\/2<i.2) then 9
 else if i.1=9/\(i.2<1\/16<i.2) then 9
 else if Qp i.1=2/\(i.2<0\/65535<i.2) then 10
 else if Qp i.1=1/\(i.2<0\/255<i.2) then 10
 else 0
def Ky (op:Int):Int:=if op=3\/op=5\/op=7\/op=8\/op=11 then 1 else if op=9 then 2 else 0
def Kan (op:Int):Int:=if op=1\/op=2\/op=4\/op=6\/op=8\/op=9 then 1 else 0
def Xn (op:Int) (f:Fr):Int:=if op=2\/op=3 then f.s else if op=4 then f.o else if op=5 then f.n else if op=6 then f.i else if op=7 then f.u else -1
structure Pl where
 met:Bool
 d:Int
 f:Int
def Pl.no:Pl:=⟨false,0,0⟩
def Ja5 (ps:List Pl) (tg:Nat) (d f:Int):Option (List Pl):=
 match ps[tg]? with
 | none=>none
 | some p=>if p.met=true then if p.d=d then some (ps.set tg ⟨true,p.d,max p.f f⟩) else none else some (ps.set tg ⟨true,d,f⟩)
def Jct (f:Fr) (at_:Nat) (i:Int×Int) (ps:List Pl) (dep:Int):Int×List Pl×Int:=
 if Qj i≠0 then(Qj i,ps,dep)
 else if 0<=Xn i.1 f/\Xn i.1 f<=i.2 then(10,ps,dep)
 else if (ps.getD at_ Pl.no).met=false then(13,ps,dep)
 else if (ps.getD at_ Pl.no).d<Ky i.1\/16<(ps.getD at_ Pl.no).d-Ky i.1+Kan i.1 then(12,ps,dep)
 else if (i.1=10\/i.1=11)/\(ps.length:Int)<=at_+1+i.2 then(11,ps,max dep ((ps.getD at_ Pl.no).d-Ky i.1+Kan i.1))
 else
  match (if i.1=10 then some ps else Ja5 ps (at_+1) ((ps.getD at_ Pl.no).d-Ky i.1+Kan i.1) ((ps.getD at_ Pl.no).f+1)) with
  | none=>(12,ps,max dep ((ps.getD at_ Pl.no).d-Ky i.1+Kan i.1))
  | some ps1=>
   if i.1=10\/i.1=11 then
    match Ja5 ps1 ((at_:Int)+1+i.2).toNat ((ps.getD at_ Pl.no).d-Ky i.1+Kan i.1) ((ps.getD at_ Pl.no).f+1) with
    | none=>(12,ps1,max dep ((ps.getD at_ Pl.no).d-Ky i.1+Kan i.1))
    | some ps2=>(0,ps2,max dep ((ps.getD at_ Pl.no).d-Ky i.1+Kan i.1))
   else(0,ps1,max dep ((ps.getD at_ Pl.no).d-Ky i.1+Kan i.1))
def goJ (f:Fr) (n:Nat):Nat->List (Int×Int)->List Pl->Int->(Int×Int)×Int×Int
 | _,[],ps,dep=>if (ps.getD n Pl.no).d≠0 then((0,0),12,n) else((dep,(ps.getD n Pl.no).f),0,0)
 | at_,i :: r,ps,dep=>if (Jct f at_ i ps dep).1≠0 then((0,0),(Jct f at_ i ps dep).1,at_) else goJ f n (at_+1) r (Jct f at_ i ps dep).2.1 (Jct f at_ i ps dep).2.2
def Jdk (n:Nat):List Pl:=⟨true,0,0⟩ :: List.replicate n Pl.no
def Yi (c:List (Int×Int)) (f:Fr):(Int×Int)×Int×Int:=
 if f.good=false then((0,0),1,0)
 else if 600<c.length then((0,0),3,0)
 else goJ f c.length 0 c (Jdk c.length) 0
structure Jaa (k n:Nat) (dep:Int) (ps:List Pl):Prop where
 len:ps.length=n+1
 dep0:0<=dep/\dep<=16
 all:∀(j:Nat) (p:Pl),ps[j]?=some p->0<=p.d/\p.d<=16/\0<=p.f/\p.f<=k/\(p.met=false->p.d=0/\p.f=0)
theorem Jaa.start (n:Nat):Jaa 0 n 0 (Jdk n):=by
 refine⟨by simp [Jdk],Ua,fun j p h=>?_⟩;unfold Jdk at h
 cases j with
 | zero=>simp at h;subst h;simp
 | succ j=>
  rw [List.getElem?_cons_succ,List.getElem?_replicate] at h
  split at h
  ·injection h with h;subst h;simp [Pl.no]
  ·cases h
theorem Jaa.get {k n:Nat} {dep:Int} {ps:List Pl} (h:Jaa k n dep ps) (j:Nat):0<=(ps.getD j Pl.no).d/\(ps.getD j Pl.no).d<=16/\0<=(ps.getD j Pl.no).f/\(ps.getD j Pl.no).f<=k/\((ps.getD j Pl.no).met=false->(ps.getD j Pl.no).d=0/\(ps.getD j Pl.no).f=0):=by
 rw [List.getD_eq_getElem?_getD]
 cases hx:ps[j]? with
 | none=>simp [Pl.no]
 | some p=>exact h.all j p hx
theorem Jaa.more {k k' n:Nat} {dep:Int} {ps:List Pl} (h:Jaa k n dep ps) (hk:k<=k'):Jaa k' n dep ps:=
 ⟨h.len,h.dep0,fun j p hp=>by have:=h.all j p hp;exact⟨this.1,this.2.1,this.2.2.1,Ua,this.2.2.2.2⟩⟩
theorem Jaa.deeper {k n:Nat} {dep d:Int} {ps:List Pl} (h:Jaa k n dep ps) (hd:0<=d/\d<=16):Jaa k n d ps:=⟨h.len,hd,h.all⟩
theorem Jaa.come {k n:Nat} {dep d f:Int} {ps ps':List Pl} {tg:Nat} (h:Jaa k n dep ps) (hc:Ja5 ps tg d f=some ps') (hd:0<=d/\d<=16) (hf:0<=f/\f<=k):Jaa k n dep ps':=by
 unfold Ja5 at hc
 cases hx:ps[tg]? with
 | none=>rw [hx] at hc;cases hc
 | some p=>
  rw [hx] at hc;have am:=(Nh hx).1;have hp:=h.all tg p hx;dsimp only at hc
  have key:∀q:Pl,0<=q.d/\q.d<=16->0<=q.f/\q.f<=k->q.met=true->Jaa k n dep (ps.set tg q):=fun q h1 h2 h3=>⟨by rw [List.length_set];exact h.len,h.dep0,fun j r hj=>by
   rw [List.getElem?_set] at hj
   by_cases hjj:tg=j
   ·rw [if_pos hjj,if_pos am] at hj;injection hj with hj;subst hj;exact⟨h1.1,h1.2,h2.1,h2.2,fun he=>by rw [h3] at he;cases he⟩
   ·rw [if_neg hjj] at hj;exact h.all j r hj⟩
  split at hc
  ·split at hc
   ·injection hc with hc;subst hc;exact key _ ⟨hp.1,hp.2.1⟩ (by dsimp only;omega) rfl
   ·cases hc
  ·injection hc with hc;subst hc;exact key _ hd hf rfl
theorem Jjp (op:Int):0<=Ky op/\Ky op<=2:=by
  unfold Ky;repeat' split
  all_goals omega
theorem Jj1 (op:Int):0<=Kan op/\Kan op<=1:=by unfold Kan;split <;> omega
theorem Jaa.one {k n:Nat} {dep:Int} {ps:List Pl} {f:Fr} {at_:Nat} {i:Int×Int} (h:Jaa k n dep ps) (h0:(Jct f at_ i ps dep).1=0):Jaa (k+1) n (Jct f at_ i ps dep).2.2 (Jct f at_ i ps dep).2.1:=by
 have hg:=h.get at_;have ht:=Jjp i.1;have hv:=Jj1 i.1;have oH:=h.dep0
 revert h0
 unfold Jct
 split
 ·intro h0;exact absurd h0 (by assumption)
 split
 ·intro h0;exact absurd (show(10:Int)=0 from h0) Ug
 split
 ·intro h0;exact absurd (show(13:Int)=0 from h0) Ug
 split
 ·intro h0;exact absurd (show(12:Int)=0 from h0) Ug
 split
 ·intro h0;exact absurd (show(11:Int)=0 from h0) Ug
 rename_i aS _;have hd:0<=(ps.getD at_ Pl.no).d-Ky i.1+Kan i.1/\(ps.getD at_ Pl.no).d-Ky i.1+Kan i.1<=16:=Ua;have hf:0<=(ps.getD at_ Pl.no).f+1/\(ps.getD at_ Pl.no).f+1<=((k+1:Nat):Int):=Ua;have hm:0<=max dep ((ps.getD at_ Pl.no).d-Ky i.1+Kan i.1)/\max dep ((ps.getD at_ Pl.no).d-Ky i.1+Kan i.1)<=16:=Ua;generalize (ps.getD at_ Pl.no).d-Ky i.1+Kan i.1=d at hd hm;generalize (ps.getD at_ Pl.no).f+1=fu at hf;have h1:=h.more (Nat.le_succ k)
 cases hc:(if i.1=10 then some ps else Ja5 ps (at_+1) d fu) with
 | none=>intro h0;exact absurd (show(12:Int)=0 from h0) Ug
 | some ps1=>
  have h2:Jaa (k+1) n dep ps1:=by
   split at hc
   ·injection hc with hc;subst hc;exact h1
   ·exact h1.come hc hd hf
  dsimp only
  split
  ·cases dm:Ja5 ps1 ((at_:Int)+1+i.2).toNat d fu with
   | none=>intro h0;exact absurd (show(12:Int)=0 from h0) Ug
   | some ps2=>exact fun _=>(h2.come dm hd hf).deeper hm
  ·exact fun _=>h2.deeper hm
structure Tk where
 kind:Int
 text:ByteArray
 n:Int
 pos:Int
def Kdh (c:Int):Bool:=decide (c=32) || decide (c=9) || decide (c=10) || decide (c=13)
def Kes (c:Int):Bool:=!decide (c=10)
def Kc8 (p:Int->Bool) (s:ByteArray):ByteArray:=s.extract 0 (Zb p s (s.size+1) 0)
def Kd6 (s:ByteArray) (k:Nat):ByteArray:=s.extract k s.size
def Kep (l:List UInt8):Bool:=l == [60,60] || l == [62,62] || l == [60,62] || l == [60,61] || l == [62,61] || l == [45,62] || l == [40] || l == [41] || l == [58] || l == [44] || l == [59] || l == [61] || l == [60] || l == [62] || l == [43] || l == [45] || l == [42] || l == [47] || l == [37] || l == [38] || l == [124] || l == [94]
def Kfl (s:ByteArray):Bool:=Kep s.toList
def Kgb:Nat->ByteArray->ByteArray
 | 0,s=>s
 | f+1,s=>if (Kd6 s (Kc8 Kdh s).size).size<2 then Kd6 s (Kc8 Kdh s).size else if ((Kd6 s (Kc8 Kdh s).size).extract 0 2).toList == [45,45] then Kgb f (Kd6 (Kd6 s (Kc8 Kdh s).size) (Kc8 Kes (Kd6 s (Kc8 Kdh s).size)).size) else Kd6 s (Kc8 Kdh s).size
def Kfi (s:ByteArray):ByteArray:=Kgb (s.size+1) s
def Kee:Int->List UInt8->Option Int
 | n,[]=>some n
 | n,c :: l=>if (c.toNat:Int)<48 then none else if 57<(c.toNat:Int) then none else Kee (10 * n+((c.toNat:Int)-48)) l
def Khf (s:ByteArray):ByteArray:=if s.data.toList.head?=some 45 then Kd6 s 1 else s
def Kfw (s:ByteArray):Int×Bool:=
 if (Khf s).size=0 then(0,false) else if 11<s.size then(0,false)
 else if (Khf s).data.toList.head?=some 48/\s.data.toList≠[48] then(0,false)
 else match Kee 0 (Khf s).data.toList with
  | none=>(0,false)
  | some n=>if -2147483648<=(if s.data.toList.head?=some 45 then -n else n)/\(if s.data.toList.head?=some 45 then -n else n)<=2147483647 then((if s.data.toList.head?=some 45 then -n else n),true) else(0,false)
def Kgi (s:ByteArray):Int:=if h:0<s.size then((s[0]'h).toNat:Int) else 0
def Kdg (s:ByteArray):Tk×Int:=
 if Zh (Kgi s)=true then(if Jdo (Kc8 Q5 s)=true then(⟨3,Kc8 Q5 s,0,0⟩,0) else if 16<(Kc8 Q5 s).size then(⟨1,Kc8 Q5 s,0,0⟩,3) else(⟨1,Kc8 Q5 s,0,0⟩,0))
 else if Jbz (Kgi s)=true then(if (Kfw (Kc8 Jbz s)).2=true then(⟨2,Kc8 Jbz s,(Kfw (Kc8 Jbz s)).1,0⟩,0) else(⟨2,Kc8 Jbz s,0,0⟩,16))
 else if 2<=s.size/\Kfl (s.extract 0 2)=true then(⟨4,s.extract 0 2,0,0⟩,0)
 else if 1<=s.size/\Kfl (s.extract 0 1)=true then(⟨4,s.extract 0 1,0,0⟩,0)
 else(⟨0,⟨#[]⟩,0,0⟩,15)
def Key (size:Nat):Nat->ByteArray->List Tk->List Tk×Int×Int
 | 0,_,out=>(out,0,0)
 | f+1,left,out=>if left.size=0 then(out,0,0) else if (Kdg left).2=0 then Key size f (Kfi (Kd6 left (Kdg left).1.text.size)) (out ++ [{(Kdg left).1 with pos:=(size:Int)-left.size}]) else([],(Kdg left).2,(size:Int)-left.size)
def Kdk (s:ByteArray):List Tk×Int×Int:=if 4096<s.size then([],3,0) else Key s.size (s.size+1) (Kfi s) []
abbrev mkB (l:List UInt8):ByteArray:=⟨l.toArray⟩
abbrev Tq:=Int×ByteArray×Int
def Tk.q (t:Tk):Tq:=(t.kind,t.text,t.n)
structure St where
 pos:Nat
 bad:Bool
def tkZ:Tk:=⟨0,⟨#[]⟩,0,0⟩
def Kc7 (ts:List Tk) (st:St):Option Tk:=if st.bad=true then none else ts[st.pos]?
def Kc5 (ts:List Tk) (st:St) (s:ByteArray):Bool:=match Kc7 ts st with
 | none=>false
 | some t=>(t.kind == 3 || t.kind == 4) && t.text.toList == s.toList
def Kc6 (ts:List Tk) (st:St) (s:ByteArray):St:=if Kc5 ts st s=true then⟨st.pos+1,st.bad⟩ else st
def Kda (ts:List Tk) (st:St) (s:ByteArray):St:=if Kc5 ts st s=true then⟨st.pos+1,st.bad⟩ else⟨st.pos,true⟩
def Kdy (ts:List Tk) (st:St) (k:Int):Tk×St:=match Kc7 ts st with
 | none=>(tkZ,⟨st.pos,true⟩)
 | some t=>if t.kind=k then(t,⟨st.pos+1,st.bad⟩) else(tkZ,⟨st.pos,true⟩)
def Kdn (ts:List Tk) (st:St):ByteArray×St:=((Kdy ts st 1).1.text,(Kdy ts st 1).2)
def Kd7 (ts:List Tk) (st:St):List ByteArray->ByteArray×St
 | []=>(⟨#[]⟩,st)
 | s :: l=>if Kc5 ts st s=true then(s,⟨st.pos+1,st.bad⟩) else Kd7 ts st l
def Ke6 (ts:List Tk) (pos:Nat) (fin:Int):Int:=match ts[pos]? with
 | none=>fin
 | some t=>t.pos
def Kdx (k:Nat):List ByteArray:=
 if k=0 then [⟨#[124]⟩,⟨#[94]⟩] else if k=1 then [⟨#[38]⟩]
 else if k=2 then [⟨#[61]⟩,⟨#[60,62]⟩,⟨#[60]⟩,⟨#[60,61]⟩,⟨#[62]⟩,⟨#[62,61]⟩]
 else if k=3 then [⟨#[60,60]⟩,⟨#[62,62]⟩] else if k=4 then [⟨#[43]⟩,⟨#[45]⟩] else [⟨#[42]⟩,⟨#[47]⟩,⟨#[37]⟩]
def Kei (s:ByteArray):Nat->Int->Int
 | 0,_=>0
 | f+1,op=>if (Ja6 op).toList == s.toList then op else Kei s f (op+1)
def opF (s:ByteArray):Int:=Kei s 16 1
inductive NT where
 | expr
 | level (k:Nat)
 | loop (k:Nat) (l:Ex)
 | unary
 | factor
 | floop (x:Ex)
 | atom
def K3 (ts:List Tk):Nat->NT->St->Ex×St
 | 0,_,st=>(Ex.zero,st)
 | f+1,.expr,st=>if Kc5 ts (K3 ts f (.level 0) st).2 ⟨#[45,62]⟩=true then(.mk 7 0 ⟨#[]⟩ [(K3 ts f (.level 0) st).1,(K3 ts f .expr (Kc6 ts (K3 ts f (.level 0) st).2 ⟨#[45,62]⟩)).1],(K3 ts f .expr (Kc6 ts (K3 ts f (.level 0) st).2 ⟨#[45,62]⟩)).2) else K3 ts f (.level 0) st
 | f+1,.level k,st=>if k=6 then K3 ts f .unary st else K3 ts f (.loop k (K3 ts f (.level (k+1)) st).1) (K3 ts f (.level (k+1)) st).2
 | f+1,.loop k l,st=>if (Kd7 ts st (Kdx k)).1.size=0 then(l,st) else if k=2 then(.mk 5 (opF (Kd7 ts st (Kdx k)).1) ⟨#[]⟩ [l,(K3 ts f (.level (k+1)) (Kd7 ts st (Kdx k)).2).1],(K3 ts f (.level (k+1)) (Kd7 ts st (Kdx k)).2).2) else K3 ts f (.loop k (.mk 5 (opF (Kd7 ts st (Kdx k)).1) ⟨#[]⟩ [l,(K3 ts f (.level (k+1)) (Kd7 ts st (Kdx k)).2).1])) (K3 ts f (.level (k+1)) (Kd7 ts st (Kdx k)).2).2
 | f+1,.unary,st=>if Kc5 ts st ⟨#[45]⟩=true then(.mk 4 1 ⟨#[]⟩ [(K3 ts f .unary (Kc6 ts st ⟨#[45]⟩)).1],(K3 ts f .unary (Kc6 ts st ⟨#[45]⟩)).2) else if Kc5 ts st ⟨#[110,111,116]⟩=true then(.mk 4 2 ⟨#[]⟩ [(K3 ts f .unary (Kc6 ts st ⟨#[110,111,116]⟩)).1],(K3 ts f .unary (Kc6 ts st ⟨#[110,111,116]⟩)).2) else K3 ts f .factor st
 | f+1,.factor,st=>K3 ts f (.floop (K3 ts f .atom st).1) (K3 ts f .atom st).2
 | f+1,.floop x,st=>if Kc5 ts st ⟨#[119,104,101,110]⟩=true then K3 ts f (.floop (.mk 8 0 (Kdn ts (Kc6 ts st ⟨#[119,104,101,110]⟩)).1 [x])) (Kdn ts (Kc6 ts st ⟨#[119,104,101,110]⟩)).2 else if Kc5 ts st ⟨#[117,110,108,101,115,115]⟩=true then K3 ts f (.floop (.mk 9 0 (Kdn ts (Kc6 ts st ⟨#[117,110,108,101,115,115]⟩)).1 [x])) (Kdn ts (Kc6 ts st ⟨#[117,110,108,101,115,115]⟩)).2 else(x,st)
 | f+1,.atom,st=>
  if ((Kc7 ts st).getD tkZ).kind=2 then(.mk 1 (Kdy ts st 2).1.n ⟨#[]⟩ [],(Kdy ts st 2).2)
  else if Kc5 ts st ⟨#[116,114,117,101]⟩=true then(.mk 2 1 ⟨#[]⟩ [],Kc6 ts st ⟨#[116,114,117,101]⟩)
  else if Kc5 ts st ⟨#[102,97,108,115,101]⟩=true then(.mk 2 0 ⟨#[]⟩ [],Kc6 ts st ⟨#[102,97,108,115,101]⟩)
  else if Kc5 ts st ⟨#[40]⟩=true then((K3 ts f .expr (Kc6 ts st ⟨#[40]⟩)).1,Kda ts (K3 ts f .expr (Kc6 ts st ⟨#[40]⟩)).2 ⟨#[41]⟩)
  else if Kc5 ts st ⟨#[105,102]⟩=true then
   let c:=K3 ts f .expr (Kc6 ts st ⟨#[105,102]⟩)
   let a:=K3 ts f .expr (Kda ts c.2 ⟨#[116,104,101,110]⟩)
   let b:=K3 ts f .expr (Kda ts a.2 ⟨#[101,108,115,101]⟩)
   (.mk 6 0 ⟨#[]⟩ [c.1,a.1,b.1],b.2)
  else if Kc5 ts st ⟨#[109,101,114,103,101]⟩=true then
   let c:=Kdn ts (Kc6 ts st ⟨#[109,101,114,103,101]⟩)
   let a:=K3 ts f .factor c.2
   let b:=K3 ts f .factor a.2
   (.mk 10 0 c.1 [a.1,b.1],b.2)
  else(.mk 3 0 (Kdn ts st).1 [],(Kdn ts st).2)
theorem Ket {ts:List Tk} {st:St} {s:ByteArray} (h:Kc5 ts st s=true):st.pos<ts.length/\st.bad=false:=by
 unfold Kc5 Kc7 at h
 split at h
 ·exact Lc
 ·rename_i t ht
  split at ht
  ·simp at ht
  ·rename_i hb;exact⟨(Nh ht).1,by simpa using hb⟩
def Keo (ts:List Tk) (a b:St):Prop:=a.pos<=b.pos/\(a.pos<=ts.length->b.pos<=ts.length)
theorem Keo.refl (ts:List Tk) (a:St):Keo ts a a:=⟨Ns _,id⟩
theorem Keo.trans {ts:List Tk} {a b c:St} (h:Keo ts a b) (h':Keo ts b c):Keo ts a c:=⟨Nat.le_trans h.1 h'.1,fun x=>h'.2 (h.2 x)⟩
theorem Kdl (ts:List Tk) (st:St) (s:ByteArray):Keo ts st (Kc6 ts st s):=by
 unfold Kc6;split
 ·rename_i h;have:=Ket h;exact⟨Uh,fun _=>Ui⟩
 ·exact Keo.refl _ _
theorem Kdc (ts:List Tk) (st:St) (s:ByteArray):Keo ts st (Kda ts st s):=by
 unfold Kda;split
 ·rename_i h;have:=Ket h;exact⟨Uh,fun _=>Ui⟩
 ·exact⟨Uh,fun h=>h⟩
theorem Khc (ts:List Tk) (st:St) (k:Int):Keo ts st (Kdy ts st k).2:=by
 unfold Kdy;split
 ·exact⟨Uh,fun h=>h⟩
 ·rename_i t ht
  have:st.pos<ts.length:=by
   unfold Kc7 at ht;split at ht
   ·simp at ht
   ·exact(Nh ht).1
  split
  ·exact⟨Uh,fun _=>Ui⟩
  ·exact⟨Uh,fun h=>h⟩
theorem Kdz (ts:List Tk) (st:St):Keo ts st (Kdn ts st).2:=Khc ts st 1
theorem Kg9 (ts:List Tk) (st:St):∀l,Keo ts st (Kd7 ts st l).2
 | []=>Keo.refl _ _
 | s :: l=>by
  unfold Kd7;split
  ·rename_i h;have:=Ket h;exact⟨Uh,fun _=>Ui⟩
  ·exact Kg9 ts st l
theorem Ke3 (ts:List Tk):∀f nt st,Keo ts st (K3 ts f nt st).2:=by
 intro f
 induction f with
 | zero=>intro nt st;cases nt <;> exact Keo.refl _ _
 | succ f ih=>
  intro nt st
  cases nt with
  | expr=>
   rw [K3];split
   ·exact((ih _ _).trans (Kdl _ _ _)).trans (ih _ _)
   ·exact ih _ _
  | level k=>
   rw [K3];split
   ·exact ih _ _
   ·exact(ih _ _).trans (ih _ _)
  | loop k l=>
   rw [K3];split
   ·exact Keo.refl _ _
   ·split
    ·exact(Kg9 _ _ _).trans (ih _ _)
    ·exact((Kg9 _ _ _).trans (ih _ _)).trans (ih _ _)
  | unary=>
   rw [K3];split
   ·exact(Kdl _ _ _).trans (ih _ _)
   ·split
    ·exact(Kdl _ _ _).trans (ih _ _)
    ·exact ih _ _
  | factor=>rw [K3];exact(ih _ _).trans (ih _ _)
  | floop x=>
   rw [K3];split
   ·exact((Kdl _ _ _).trans (Kdz _ _)).trans (ih _ _)
   ·split
    ·exact((Kdl _ _ _).trans (Kdz _ _)).trans (ih _ _)
    ·exact Keo.refl _ _
  | atom=>
   rw [K3];split
   ·exact Khc _ _ _
   ·split
    ·exact Kdl _ _ _
    ·split
     ·exact Kdl _ _ _
     ·split
      ·exact((Kdl _ _ _).trans (ih _ _)).trans (Kdc _ _ _)
      ·split
       ·exact(((((Kdl _ _ _).trans (ih _ _)).trans (Kdc _ _ _)).trans (ih _ _)).trans (Kdc _ _ _)).trans (ih _ _)
       ·split
        ·exact(((Kdl _ _ _).trans (Kdz _ _)).trans (ih _ _)).trans (ih _ _)
        ·exact Kdz _ _
def Kec (ts:List Tk) (st:St):Va×St:=
 let s1:=Kda ts (Kdn ts st).2 ⟨#[58]⟩
 if Kc5 ts s1 ⟨#[98,111,111,108]⟩=true then(⟨(Kdn ts st).1,2,0,⟨#[]⟩⟩,Kc6 ts s1 ⟨#[98,111,111,108]⟩) else(⟨(Kdn ts st).1,1,0,⟨#[]⟩⟩,Kda ts s1 ⟨#[105,110,116]⟩)
def Ke4 (ts:List Tk):Nat->List Va->St->List Va×St
 | 0,l,st=>(l,st)
 | f+1,l,st=>if Kc5 ts st ⟨#[59]⟩=true then Ke4 ts f (l ++ [(Kec ts (Kc6 ts st ⟨#[59]⟩)).1]) (Kec ts (Kc6 ts st ⟨#[59]⟩)).2 else(l,st)
def Ker (ts:List Tk) (st:St):List Va×St:=
 let s1:=Kda ts st ⟨#[40]⟩
 if Kc5 ts s1 ⟨#[41]⟩=true then([],Kc6 ts s1 ⟨#[41]⟩)
 else
  let r:=Ke4 ts (ts.length+1) [(Kec ts s1).1] (Kec ts s1).2
  (r.1,Kda ts r.2 ⟨#[41]⟩)
def Kez (ts:List Tk) (st:St):Va×St:=
 let d:=Kec ts st
 if Kc5 ts d.2 ⟨#[119,104,101,110]⟩=true then
  let n:=Kdn ts (Kc6 ts d.2 ⟨#[119,104,101,110]⟩)
  ({d.1 with ck:=1,cn:=n.1},Kda ts n.2 ⟨#[59]⟩)
 else if Kc5 ts d.2 ⟨#[117,110,108,101,115,115]⟩=true then
  let n:=Kdn ts (Kc6 ts d.2 ⟨#[117,110,108,101,115,115]⟩)
  ({d.1 with ck:=2,cn:=n.1},Kda ts n.2 ⟨#[59]⟩)
 else(d.1,Kda ts d.2 ⟨#[59]⟩)
def Kfx (ts:List Tk) (minus:Bool) (st:St):Option (Ex×St):=
 if ((Kc7 ts st).getD tkZ).kind=2 then some (.mk 1 ((Kc7 ts st).getD tkZ).n ⟨#[]⟩ [],⟨st.pos+1,st.bad⟩)
 else if minus=true then none
 else if Kc5 ts st ⟨#[116,114,117,101]⟩=true then some (.mk 2 1 ⟨#[]⟩ [],Kc6 ts st ⟨#[116,114,117,101]⟩)
 else if Kc5 ts st ⟨#[102,97,108,115,101]⟩=true then some (.mk 2 0 ⟨#[]⟩ [],Kc6 ts st ⟨#[102,97,108,115,101]⟩)
 else none
def Kem (ts:List Tk) (st:St):Option (Ex×St):=
 match Kfx ts (Kc5 ts st ⟨#[45]⟩) (Kc6 ts st ⟨#[45]⟩) with
 | none=>none
 | some (x,s)=>if Kc5 ts s ⟨#[102,98,121]⟩=true then some (if Kc5 ts st ⟨#[45]⟩=true then .mk 4 1 ⟨#[]⟩ [x] else x,Kc6 ts s ⟨#[102,98,121]⟩) else none
def Kfc (ts:List Tk):Nat:=12 * ts.length+12
def Kdt (ts:List Tk) (st:St):Qe×St:=
 let n:=Kdn ts st
 let s1:=Kda ts n.2 ⟨#[61]⟩
 if Kc5 ts s1 ⟨#[112,114,101]⟩=true then
  let r:=K3 ts (Kfc ts) .expr (Kc6 ts s1 ⟨#[112,114,101]⟩)
  (⟨n.1,2,Ex.zero,r.1⟩,Kda ts r.2 ⟨#[59]⟩)
 else match Kem ts s1 with
  | some (x,s2)=>
   let r:=K3 ts (Kfc ts) .expr s2
   (⟨n.1,1,x,r.1⟩,Kda ts r.2 ⟨#[59]⟩)
  | none=>
   let r:=K3 ts (Kfc ts) .expr s1
   (⟨n.1,0,Ex.zero,r.1⟩,Kda ts r.2 ⟨#[59]⟩)
def Kfj (ts:List Tk):Nat->List Va->St->List Va×St
 | 0,l,st=>(l,st)
 | f+1,l,st=>if st.bad=true then(l,st) else if Kc5 ts st ⟨#[108,101,116]⟩=true then(l,st) else Kfj ts f (l ++ [(Kez ts st).1]) (Kez ts st).2
def Kew (ts:List Tk):Pr×St:=
 let n:=Kdn ts (Kda ts ⟨0,false⟩ ⟨#[110,111,100,101]⟩)
 let i:=Ker ts n.2
 let o:=Ker ts (Kda ts i.2 ⟨#[114,101,116,117,114,110,115]⟩)
 let s1:=Kda ts o.2 ⟨#[59]⟩
 if Kc5 ts s1 ⟨#[118,97,114]⟩=true then
  let v:=Kez ts (Kc6 ts s1 ⟨#[118,97,114]⟩)
  let r:=Kfj ts (ts.length+1) [v.1] v.2
  (⟨n.1,i.1,o.1,r.1,[]⟩,Kda ts r.2 ⟨#[108,101,116]⟩)
 else(⟨n.1,i.1,o.1,[],[]⟩,Kda ts s1 ⟨#[108,101,116]⟩)
def Kd8 (ts:List Tk) (fin:Int):Nat->List Qe->St->List Qe×Int×Int×St
 | 0,l,st=>(l,0,0,st)
 | f+1,l,st=>if st.bad=true then(l,0,0,st) else if Kc5 ts st ⟨#[116,101,108]⟩=true then(l,0,0,Kc6 ts st ⟨#[116,101,108]⟩)
  else if (Kdt ts st).2.bad=true then(l,0,0,(Kdt ts st).2)
  else if (Kdt ts st).1.e.right≠0 then(l,(Kdt ts st).1.e.right,Ke6 ts st.pos fin,(Kdt ts st).2)
  else Kd8 ts fin f (l ++ [(Kdt ts st).1]) (Kdt ts st).2
def prZ:Pr:=⟨⟨#[]⟩,[],[],[],[]⟩
def Kdm (s:ByteArray):Pr×Int×Int:=
 if (Kdk s).2.1≠0 then(prZ,(Kdk s).2.1,(Kdk s).2.2)
 else
  let ts:=(Kdk s).1
  let h:=Kew ts
  let q:=Kd8 ts s.size (ts.length+1) [] h.2
  if q.2.1≠0 then(prZ,q.2.1,q.2.2.1)
  else if q.2.2.2.bad=true\/q.2.2.2.pos<ts.length then(prZ,16,Ke6 ts q.2.2.2.pos s.size)
  else({h.1 with eqs:=q.1},0,0)
end Go.Proofs.YtdgjplldlfeolaaGreatDoor
namespace Go.Proofs.YtdgjplldlfeolaaGreatDoor
open Go.RowKit Go.Sort
structure Kkz (w:World) (b off:Nat) (t:Tk):Prop where
 c0:w.cell? ⟨b,off,none⟩=some (.int .i64 t.kind)
 c1:w.cell? ⟨b,off+1,none⟩=some (.string t.text)
 c2:w.cell? ⟨b,off+2,none⟩=some (.int .i32 t.n)
 c3:w.cell? ⟨b,off+3,none⟩=some (.int .i64 t.pos)
def tkV (t:Tk):Value:= .agg #[.int .i64 t.kind,.string t.text,.int .i32 t.n,.int .i64 t.pos]
def Kg5 (B:Nat) (w:World) (l:List Tk) (A:Option Addr) (cap:Nat):Prop:=
 l.length<=cap/\cap<=maxLen/\(0<l.length->∃b off,A=some ⟨b,off,none⟩/\b<B/\∀k t,l[k]?=some t->Kkz w b (off+k * 4) t)
theorem Kg5.get {B:Nat} {w:World} {l:List Tk} {A:Option Addr} {cap k:Nat} {t:Tk} (h:Kg5 B w l A cap) (hk:l[k]?=some t):∃b off,A=some ⟨b,off,none⟩/\b<B/\b<w.heap.size/\Kkz w b (off+k * 4) t:=by
 have am:k<l.length:=(Nh hk).1;obtain⟨b,off,hA,hB,hr⟩:=h.2.2 Ua;exact⟨b,off,hA,hB,Nu (hr k t hk).c0,hr k t hk⟩
def Kfu (B:Nat) (W:World) (P:World->Prop):Prop:=∀W',J6 (fun b=>b=B) W W'->P W'
theorem Kfu.here {B:Nat} {W:World} {P:World->Prop} (h:Kfu B W P):P W:=h W (J6.refl W)
theorem Kfu.on {B:Nat} {W W':World} {P:World->Prop} (h:Kfu B W P) (hk:J6 (fun b=>b=B) W W'):Kfu B W' P:=fun W2 h2=>h W2 (hk.trans' h2)
theorem Kfu.bel {B:Nat} {W W':World} {P:World->Prop} (h:Kfu B W P) (hb:Below W.heap.size W W'):Kfu B W' P:=h.on (J6.bel hb)
theorem Kfu.imp {B:Nat} {W:World} {P Q:World->Prop} (h:Kfu B W P) (hpq:∀W',P W'->Q W'):Kfu B W Q:=fun W' hk=>hpq _ (h W' hk)
theorem Kfu.both {B:Nat} {W:World} {P Q:World->Prop} (h:Kfu B W P) (h':Kfu B W Q):Kfu B W fun W'=>P W'/\Q W':=fun W' hk=>⟨h W' hk,h' W' hk⟩
theorem Kgw {B:Nat} {W:World} {l:List Tk} {A:Option Addr} {cap:Nat} (h:Kg5 B W l A cap):Kfu B W fun W'=>Kg5 B W' l A cap:=fun W' hk=>⟨h.1,h.2.1,fun hl=>by
 obtain⟨b,off,hA,hB,hr⟩:=h.2.2 hl;have aS:¬b=B:=Ua;exact⟨b,off,hA,hB,fun k t ht=>⟨hk.cell aS (hr k t ht).c0,hk.cell aS (hr k t ht).c1,hk.cell aS (hr k t ht).c2,hk.cell aS (hr k t ht).c3⟩⟩⟩
structure X2 (B:Nat) (ts:List Tk) (A:Option Addr) (cap:Nat) (W:World) (st:St):Prop where
 c0:W.cell? ⟨B,0,none⟩=some (.slice A ts.length cap)
 c1:W.cell? ⟨B,1,none⟩=some (.int .i64 st.pos)
 c2:W.cell? ⟨B,2,none⟩=some (.bool st.bad)
 f1:W.frozen? ⟨B,1,none⟩=false
 f2:W.frozen? ⟨B,2,none⟩=false
 f0:W.frozen? ⟨B,0,none⟩=false
 toks:Kg5 B W ts A cap
 le:st.pos<=ts.length
theorem X2.lt {B:Nat} {ts:List Tk} {A:Option Addr} {cap:Nat} {W:World} {st:St} (h:X2 B ts A cap W st):B<W.heap.size:=Nu h.c0
theorem X2.later {B:Nat} {ts:List Tk} {A:Option Addr} {cap:Nat} {W W':World} {st:St} (h:X2 B ts A cap W st) (hb:Below W.heap.size W W'):X2 B ts A cap W' st:=
 ⟨Ja hb h.c0,Ja hb h.c1,Ja hb h.c2,(Jf hb B 1 h.lt).trans h.f1,(Jf hb B 2 h.lt).trans h.f2,(Jf hb B 0 h.lt).trans h.f0,Kgw h.toks W' (J6.bel hb),h.le⟩
theorem X2.pos {B:Nat} {ts:List Tk} {A:Option Addr} {cap:Nat} {W:World} {st:St} (h:X2 B ts A cap W st) (n:Nat) (hn:n<=ts.length):X2 B ts A cap (W.setCell ⟨B,1,none⟩ (.int .i64 n)) ⟨n,st.bad⟩:=
 ⟨(J5 _ _ _ _ _ Ua).trans h.c0,Nx _ _ _ h.c1,(J5 _ _ _ _ _ Ua).trans h.c2,(World.frozen?_setCell ..).trans h.f1,(World.frozen?_setCell ..).trans h.f2,(World.frozen?_setCell ..).trans h.f0,Kgw h.toks _ ((J6.refl (S:=fun b=>b=B) W).setCell (b:=B) rfl _ _),hn⟩
theorem X2.fall {B:Nat} {ts:List Tk} {A:Option Addr} {cap:Nat} {W:World} {st:St} (h:X2 B ts A cap W st) (v:Bool):X2 B ts A cap (W.setCell ⟨B,2,none⟩ (.bool v)) ⟨st.pos,v⟩:=
 ⟨(J5 _ _ _ _ _ Ua).trans h.c0,(J5 _ _ _ _ _ Ua).trans h.c1,Nx _ _ _ h.c2,(World.frozen?_setCell ..).trans h.f1,(World.frozen?_setCell ..).trans h.f2,(World.frozen?_setCell ..).trans h.f0,Kgw h.toks _ ((J6.refl (S:=fun b=>b=B) W).setCell (b:=B) rfl _ _),h.le⟩
end Go.Proofs.YtdgjplldlfeolaaGreatDoor
