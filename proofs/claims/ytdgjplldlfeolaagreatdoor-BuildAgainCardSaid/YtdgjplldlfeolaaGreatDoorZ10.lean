/- Lemmas. -/
import Derived.Test.YtdgjplldlfeolaaGreatDoorZ03
import Derived.Test.YtdgjplldlfeolaaGreatDoorZ06
import Derived.Test.YtdgjplldlfeolaaGreatDoorZ01
import Derived.Test.YtdgjplldlfeolaaGreatDoorZ04
set_option linter.unusedVariables false
set_option linter.unusedSimpArgs false
set_option maxRecDepth 100000
set_option maxHeartbeats 64000000
namespace Go.Proofs.YtdgjplldlfeolaaGreatDoor
open Go.RowKit Go.Sort
theorem Jzu (e:Ex) (l:List Va) (A:Option Addr) (cap B:Nat) (Ae:Option Addr) (ce:Nat) (w:World) (t0 t1:Int) (hk:e.kind=7) (aU:Ex.typL l e.sub=([t0,t1],0)) (fQ:t0=1\/t0=2) (gJ:t1=1\/t1=2) (dI:e.name.toList.isEmpty=true)
  (av:Q7 e l A cap B Ae ce w) (aF:Xz e l A cap B w) :
  Calls Tryz.prog 139 #[Q6 l A cap B,exV e Ae ce] w fun r w'=>r = .returned (.tuple #[.int .i64 (e.typ l).1,.int .i64 (e.typ l).2])/\Below w.heap.size w w':=by
 have hv:e.typ l=Y2 l e.kind e.n e.name [t0,t1]:=by rw [Ex.typ_eq,aU];rfl
 rw [hk,Y2,if_neg (by rintro⟨h1,h2⟩;simp_all)] at hv;have dS:(Ex.typL l e.sub).1 = [t0,t1]:=by rw [aU]
 have lG:(Ex.typL l e.sub).2=0:=by rw [aU]
 clear aU;unfold Q7 at av;unfold Xz at aF;have q1:(e.kind == 1)=false:=by rw [hk];rfl
 have q2:(e.kind == 2)=false:=by rw [hk];rfl
 have q3:(e.kind == 3)=false:=by rw [hk];rfl
 have q4:(e.kind == 4)=false:=by rw [hk];rfl
 have q5:(e.kind == 5)=false:=by rw [hk];rfl
 have q6:(e.kind == 6)=false:=by rw [hk];rfl
 have q7:(e.kind == 7)=true:=by rw [hk];rfl
 clear hk;unfold Q6 exV at *
 rcases fQ with rfl|rfl <;> rcases gJ with rfl|rfl <;>
 ·simp [Je3,Jbl] at hv;have HV:=Lib.hid hv;clear hv
  go_enter Tryz.func139,Tryz.ntmps139
  go_wp2_with (first|(go_at_call 148;refine(av _ Jb).mono ?_;rintro r w1 ⟨⟨v,rfl,ae⟩,ac⟩;have ⟨ak,af⟩:=aft ac;(try simp at af);have bV:=alt ac;rw [dS] at ae;simp only [List.map_cons,List.map_nil,List.length_cons,List.length_nil,Nat.zero_add,Nat.reduceAdd] at ae;obtain⟨g,gc,rfl,eN,aG,bJ,cg,ah⟩:=Kc ae (by omega);unfold maxLen at cg;have e0:=ah 0 _ rfl;have e1:=ah 1 _ rfl;clear ah ae)|(go_at_call 149;refine(aF _ Jb).mono ?_;rintro r w1 ⟨rfl,ac⟩;have ⟨ak,af⟩:=aft ac;(try simp at af);have bV:=alt ac;(try have eC:=Nat.lt_of_lt_of_le aG ac.size)))
  refine Jx (by kernel_rfl) (by kernel_rfl) (fun bj=>?_)
  repeat (quiet_step (fail))
  refine wpQuiet_nil ?_;intro wq au;replace au:=qbo au;obtain⟨au,dA,bh⟩:=au;clear bj
  (try simp at bh)
  have oO:=alt au
  go_wp2_with fail
  go_ret2
  exact⟨by rw [HV.out];rfl,Jb⟩
theorem Kag (e:Ex) (l:List Va) (A:Option Addr) (cap B:Nat) (Ae:Option Addr) (ce:Nat) (w:World) (t0:Int) (hk:e.kind=8) (aU:Ex.typL l e.sub=([t0],0)) (fQ:t0=1\/t0=2) (dI:e.name.toList.isEmpty=false) (nP:(K7 l e.name).2=true)
  (av:Q7 e l A cap B Ae ce w) (aF:Xz e l A cap B w) :
  Calls Tryz.prog 139 #[Q6 l A cap B,exV e Ae ce] w fun r w'=>r = .returned (.tuple #[.int .i64 (e.typ l).1,.int .i64 (e.typ l).2])/\Below w.heap.size w w':=by
 have hv:e.typ l=Y2 l e.kind e.n e.name [t0]:=by rw [Ex.typ_eq,aU];rfl
 rw [hk,Y2,if_neg (by rintro⟨h1,h2⟩;simp_all)] at hv;have dS:(Ex.typL l e.sub).1 = [t0]:=by rw [aU]
 have lG:(Ex.typL l e.sub).2=0:=by rw [aU]
 clear aU;unfold Q7 at av;unfold Xz at aF;have q1:(e.kind == 1)=false:=by rw [hk];rfl
 have q2:(e.kind == 2)=false:=by rw [hk];rfl
 have q3:(e.kind == 3)=false:=by rw [hk];rfl
 have q4:(e.kind == 4)=false:=by rw [hk];rfl
 have q5:(e.kind == 5)=false:=by rw [hk];rfl
 have q6:(e.kind == 6)=false:=by rw [hk];rfl
 have q7:(e.kind == 7)=false:=by rw [hk];rfl
 have q8:(e.kind == 8)=true:=by rw [hk];rfl
 clear hk;unfold Q6 exV at *;generalize aL:(K7 l e.name).1=nm at hv aF;clear aL
 rcases fQ with rfl|rfl <;> cases eu:(nm == 2) <;>
 ·simp [Je3,Jbl,eu] at hv;have HV:=Lib.hid hv;clear hv
  go_enter Tryz.func139,Tryz.ntmps139
  go_wp2_with (first|(go_at_call 148;refine(av _ Jb).mono ?_;rintro r w1 ⟨⟨v,rfl,ae⟩,ac⟩;have ⟨ak,af⟩:=aft ac;(try simp at af);have bV:=alt ac;rw [dS] at ae;simp only [List.map_cons,List.map_nil,List.length_cons,List.length_nil,Nat.zero_add,Nat.reduceAdd] at ae;obtain⟨g,gc,rfl,eN,aG,bJ,cg,ah⟩:=Kc ae (by omega);unfold maxLen at cg;have e0:=ah 0 _ rfl;clear ah ae)|(go_at_call 149;refine(aF _ Jb).mono ?_;rintro r w1 ⟨rfl,ac⟩;have ⟨ak,af⟩:=aft ac;(try simp at af);have bV:=alt ac;(try have eC:=Nat.lt_of_lt_of_le aG ac.size)))
  go_ret2
  exact⟨by rw [HV.out];rfl,Jb⟩
theorem Kab (e:Ex) (l:List Va) (A:Option Addr) (cap B:Nat) (Ae:Option Addr) (ce:Nat) (w:World) (t0:Int) (hk:e.kind=9) (aU:Ex.typL l e.sub=([t0],0)) (fQ:t0=1\/t0=2) (dI:e.name.toList.isEmpty=false) (nP:(K7 l e.name).2=true)
  (av:Q7 e l A cap B Ae ce w) (aF:Xz e l A cap B w) :
  Calls Tryz.prog 139 #[Q6 l A cap B,exV e Ae ce] w fun r w'=>r = .returned (.tuple #[.int .i64 (e.typ l).1,.int .i64 (e.typ l).2])/\Below w.heap.size w w':=by
 have hv:e.typ l=Y2 l e.kind e.n e.name [t0]:=by rw [Ex.typ_eq,aU];rfl
 rw [hk,Y2,if_neg (by rintro⟨h1,h2⟩;simp_all)] at hv;have dS:(Ex.typL l e.sub).1 = [t0]:=by rw [aU]
 have lG:(Ex.typL l e.sub).2=0:=by rw [aU]
 clear aU;unfold Q7 at av;unfold Xz at aF;have q1:(e.kind == 1)=false:=by rw [hk];rfl
 have q2:(e.kind == 2)=false:=by rw [hk];rfl
 have q3:(e.kind == 3)=false:=by rw [hk];rfl
 have q4:(e.kind == 4)=false:=by rw [hk];rfl
 have q5:(e.kind == 5)=false:=by rw [hk];rfl
 have q6:(e.kind == 6)=false:=by rw [hk];rfl
 have q7:(e.kind == 7)=false:=by rw [hk];rfl
 have q8:(e.kind == 8)=false:=by rw [hk];rfl
 have q9:(e.kind == 9)=true:=by rw [hk];rfl
 clear hk;unfold Q6 exV at *;generalize aL:(K7 l e.name).1=nm at hv aF;clear aL
 rcases fQ with rfl|rfl <;> cases eu:(nm == 2) <;>
 ·simp [Je3,Jbl,eu] at hv;have HV:=Lib.hid hv;clear hv
  go_enter Tryz.func139,Tryz.ntmps139
  go_wp2_with (first|(go_at_call 148;refine(av _ Jb).mono ?_;rintro r w1 ⟨⟨v,rfl,ae⟩,ac⟩;have ⟨ak,af⟩:=aft ac;(try simp at af);have bV:=alt ac;rw [dS] at ae;simp only [List.map_cons,List.map_nil,List.length_cons,List.length_nil,Nat.zero_add,Nat.reduceAdd] at ae;obtain⟨g,gc,rfl,eN,aG,bJ,cg,ah⟩:=Kc ae (by omega);unfold maxLen at cg;have e0:=ah 0 _ rfl;clear ah ae)|(go_at_call 149;refine(aF _ Jb).mono ?_;rintro r w1 ⟨rfl,ac⟩;have ⟨ak,af⟩:=aft ac;(try simp at af);have bV:=alt ac;(try have eC:=Nat.lt_of_lt_of_le aG ac.size)))
  go_ret2
  exact⟨by rw [HV.out];rfl,Jb⟩
theorem Jpg (v:Va) (hs:Jb8 v) (w:World):Calls Tryz.prog 24 #[vaV v] w fun r w'=>r = .returned (.string (Jb9 v))/\Below w.heap.size w w':=by
 obtain⟨h1,h2⟩:=hs;unfold vaV
 by_cases c1:v.ck=1 <;> by_cases c2:v.ck=2 <;> by_cases c3:v.type=2 <;> first|omega |
 ·have hv:Jb9 v=Jb9 v:=rfl;rw (occs:= .pos [2]) [Jb9] at hv
  first|rw [if_pos c1] at hv|rw [if_neg c1,if_pos c2] at hv|rw [if_neg c1,if_neg c2] at hv
  first|rw [if_pos c3] at hv|rw [if_neg c3] at hv
  have HV:=Lib.hid hv;clear hv
  go_enter Tryz.func24,Tryz.ntmps24
  go_wp2_with fail
  go_ret;exact⟨Kk HV.out.symm,Jb⟩
theorem Jpo (l:List Va) (A:Option Addr) (cap:Nat) (hs:∀v∈l,Jb8 v) (hn:l.length<=1000000) (w:World) (hl:Ju w l A cap) :
  Calls Tryz.prog 23 #[.slice A l.length cap] w fun r w'=>r = .returned (.string (Y9 l))/\Below w.heap.size w w':=by
 have aD:=hl.len;unfold maxLen at aD;obtain⟨fD,cG⟩:=aD;have cE:=Jcl l hs 0 ⟨#[40]⟩;have HV:=Lib.hid (show Y9 l=Yr 0 ⟨#[40]⟩ l ++ ⟨#[41]⟩ from rfl)
 have hz:(Yr 0 ⟨#[40]⟩ l).size<=100000000:=by
  simp only [Ko,List.size_toArray,List.length_cons,List.length_nil] at cE;omega
 clear cE;generalize hG:Yr 0 ⟨#[40]⟩ l=G at HV hz;have HG:=Lib.hid hG;clear hG
 go_enter Tryz.func23,Tryz.ntmps23
 go_wp2_with fail
 go_loopw [3,8] (fun o i wr=>∃(k:Nat) (s:ByteArray),k<=l.length/\i = .int .i64 k/\o = .string s/\s.size<=1+62 * k/\Yr k s (l.drop k)=G/\Below w.heap.size w wr) (fun _ i _=>l.length-(intOf i).toNat)
 case atStart=>exact⟨0,⟨#[40]⟩,Nat.zero_le _,rfl,rfl,by decide,HG.out,Below.refl _ _⟩
 case round=>
  obtain⟨k,s,hk,rfl,rfl,rV,aa,ab⟩:=hrel
  by_cases am:k<l.length
  ·have aj:l[k]∈l:=List.getElem_mem am;have hx:l[k]?=some l[k]:=List.getElem?_eq_getElem am;have hd:l.drop k=l[k] :: l.drop (k+1):=List.drop_eq_getElem_cons am;generalize l[k]=x at hx hd aj;obtain⟨b,off,rfl,aH,⟨d0,d1,d2,d3⟩⟩:=(hl.later ab).get hx;rw [hd,Yr] at aa;have mn:=hs x aj;have hds:=Jc9 mn;have eA:=fun W=>Jpg x mn W;unfold vaV at eA;clear hd hx
   rcases Nat.eq_zero_or_pos k with h0|h0
   ·subst h0;rw [if_neg (by omega)] at aa;have HR:=Lib.hid aa;clear aa;simp only [Nat.zero_mul,Nat.add_zero] at d0 d1 d2 d3
    go_wp2_with (first|(go_at_call 24;refine mo (eA _) fun w1 ac ak af bV=>?_;(try simp at af)))
    go_roundw
    case rel=>exact⟨1,_,by omega,by go_num,rfl,by rw [Kq];omega,HR.out,Jb⟩
    case measure=>simp [intOf];omega
   ·rw [if_pos h0] at aa;have HR:=Lib.hid aa;clear aa;have h0':(0:Int)<k:=by omega
    go_wp2_with (first|(go_at_call 24;refine mo (eA _) fun w1 ac ak af bV=>?_;(try simp at af)))
    go_roundw
    case rel=>exact⟨k+1,_,by omega,by go_num,rfl,by simp only [Kq,Ko,List.size_toArray,List.length_cons,List.length_nil];omega,HR.out,Jb⟩
    case measure=>simp [intOf];omega
  ·obtain rfl:k=l.length:=by omega
   rw [List.drop_length,Yr] at aa;have HR:=Lib.hid aa;clear aa
   go_wp2_with fail
   go_ret;exact⟨Kk (by rw [HV.out,<-HR.out]),Jb⟩
end Go.Proofs.YtdgjplldlfeolaaGreatDoor
namespace Go.Proofs.YtdgjplldlfeolaaGreatDoor
open Go.RowKit
def ofF (e:Ex) (l:List Va):Int×Int:=if e.right≠0 then(0,e.right) else e.typ l
end Go.Proofs.YtdgjplldlfeolaaGreatDoor
namespace Go.Proofs.YtdgjplldlfeolaaGreatDoor
open Go.RowKit Go.Sort Go.Maps Go.ChangeMaps Go.WideMaps
section
variable {P:Program} {k e:TypeId} {q:IntKind} {K:Type} {ok:K->Prop} {kv:K->Value} {kl:K->Lit} {w:World}
theorem Jcb (ks:Jer P k ok kv kl) {t:TypeId} (ht:P.underlying t=some (.map k e)) (he:P.underlying e=some (.int q)) (hz:(zeroValue e).run P w = .ok (.int q 0) w)
  {b n:Nat} {f:K->Option Int} {c:Nat} {s:K} {x:Value} (hx:x=kv s) (ae:Q3 P k e q ok kl w b n f c) (hs:ok s) {r:Int} (hr:(f s).getD 0=r):(Instr.lookup t (.map (some b)) x false).run P w = .ok (.int q r) w:=by
 subst hx;obtain⟨D,h1,h2,_,h3⟩:=ae;obtain⟨c,eH,aY,lD⟩:=h1.lookup_int ks.keyed ht he hz (ks.read s hs);rw [(h3 s hs).2] at aY;have hc:(f s).getD 0=c:=by injection aY with aY;injection aY
 rw [eH,<-hc,hr]
end
theorem Q3.drew {P:Program} {k e:TypeId} {q:IntKind} {K:Type} {ok:K->Prop} {kl:K->Lit} {w:World} {b n c:Nat} {f:K->Option Int} (h:Q3 P k e q ok kl w b n f c):Q3 P k e q ok kl w.drew b n f c:=h.bel (Jh (Below.refl _ _))
end Go.Proofs.YtdgjplldlfeolaaGreatDoor
