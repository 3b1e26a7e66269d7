/- Lemmas. -/
import Derived.Test.YtdgjplldlfeolaaGreatDoorMac
import Derived.Test.YtdgjplldlfeolaaGreatDoorY01
import Derived.Test.YtdgjplldlfeolaaGreatDoorY02
import Derived.Test.YtdgjplldlfeolaaGreatDoorY00
import Derived.Test.YtdgjplldlfeolaaGreatDoorRows
import Derived.Test.YtdgjplldlfeolaaGreatDoorY04
import Derived.Maps.Keyed
import Derived.DeepKeys4
set_option linter.unusedVariables false
set_option linter.unusedSimpArgs false
set_option maxRecDepth 100000
set_option maxHeartbeats 64000000
namespace Go.Proofs.YtdgjplldlfeolaaGreatDoor
open Go.RowKit Go.Sort
theorem Jpg (v:Va) (hs:Jb8 v) (w:World):Calls Tryz.prog 24 #[vaV v] w fun r w'=>r = .returned (.string (Jb9 v))/\Below w.heap.size w w':=by
 obtain⟨h1,h2⟩:=hs;unfold vaV
 by_cases c1:v.ck=1 <;> by_cases c2:v.ck=2 <;> by_cases c3:v.type=2 <;> first|omega |
 ·have hv:Jb9 v=Jb9 v:=rfl;rw (occs:= .pos [2]) [Jb9] at hv
  first|rw [if_pos c1] at hv|rw [if_neg c1,if_pos c2] at hv|rw [if_neg c1,if_neg c2] at hv
  first|rw [if_pos c3] at hv|rw [if_neg c3] at hv
  have HV:=Nf hv;clear hv
  go_enter Tryz.func24,Tryz.ntmps24
  go_wp2_with fail
  go_ret;exact⟨Kk HV.out.symm,Jb⟩
theorem Jpo (l:List Va) (A:Option Addr) (cap:Nat) (hs:∀v∈l,Jb8 v) (hn:l.length<=1000000) (w:World) (hl:Ju w l A cap) :
  Calls Tryz.prog 23 #[.slice A l.length cap] w fun r w'=>r = .returned (.string (Y9 l))/\Below w.heap.size w w':=by
 have aD:=hl.len;unfold maxLen at aD;obtain⟨fD,cG⟩:=aD;have cE:=Jcl l hs 0 ⟨#[40]⟩;have HV:=Nf (show Y9 l=Yr 0 ⟨#[40]⟩ l ++ ⟨#[41]⟩ from rfl)
 have hz:(Yr 0 ⟨#[40]⟩ l).size<=100000000:=by
  simp only [Ko,List.size_toArray,Nl,Nm] at cE;exact Ua
 clear cE;generalize hG:Yr 0 ⟨#[40]⟩ l=G at HV hz;have HG:=Nf hG;clear hG
 go_enter Tryz.func23,Tryz.ntmps23
 go_wp2_with fail
 go_loopw [3,8] (fun o i wr=>∃(k:Nat) (s:ByteArray),k<=l.length/\i = .int .i64 k/\o = .string s/\s.size<=1+62 * k/\Yr k s (l.drop k)=G/\Below w.heap.size w wr) (fun _ i _=>l.length-(intOf i).toNat)
 case atStart=>exact⟨0,⟨#[40]⟩,Np,rfl,rfl,Ug,HG.out,Nt⟩
 case round=>
  obtain⟨k,s,hk,rfl,rfl,rV,aa,ab⟩:=hrel
  by_cases am:k<l.length
  ·have aj:l[k]∈l:=Nj am;have hx:l[k]?=some l[k]:=Ng am;have hd:l.drop k=l[k] :: l.drop (k+1):=No am;generalize l[k]=x at hx hd aj;obtain⟨b,off,rfl,aH,⟨d0,d1,d2,d3⟩⟩:=(hl.later ab).get hx;rw [hd,Yr] at aa;have mn:=hs x aj;have hds:=Jc9 mn;have eA:=fun W=>Jpg x mn W;unfold vaV at eA;clear hd hx
   rcases Nat.eq_zero_or_pos k with h0|h0
   ·subst h0;rw [if_neg Ua] at aa;have HR:=Nf aa;clear aa;simp only [Nat.zero_mul,Nat.add_zero] at d0 d1 d2 d3
    go_wp2_with (first|(go_at_call 24;refine mo (eA _) fun w1 ac ak af bV=>?_;(try simp at af)))
    go_roundw
    case rel=>exact⟨1,_,Ua,Uw,rfl,by rw [Kq];omega,HR.out,Jb⟩
    case measure=>simp [intOf];omega
   ·rw [if_pos h0] at aa;have HR:=Nf aa;clear aa;have h0':(0:Int)<k:=Ua;exact Uaf
  ·obtain rfl:k=l.length:=Ua;rw [Nn,Yr] at aa;have HR:=Nf aa;clear aa
   go_wp2_with fail
   go_ret;exact⟨Kk (by rw [HV.out,<-HR.out]),Jb⟩
def X8 (p:Pr):ByteArray:=if K5 p=0 then Jal p else⟨#[]⟩
theorem Jh3 (p:Pr) (a:PrA) (w:World) (hp:Kr w p a) (n1:p.ins.length<=1000000) (n2:p.outs.length<=1000000) (n3:p.locals.length<=1000000) (n4:p.eqs.length<=1000000) :
  Calls Tryz.prog 8 #[prV p a] w fun r w'=>r = .returned (.tuple #[.string (X8 p),.int .i64 (K5 p)])/\Below w.heap.size w w':=by
 have bI:=hp.ins.len;have aD:=hp.outs.len;have fD:=hp.locals.len;have cG:=hp.eqs.len;unfold maxLen at bI aD fD cG;obtain⟨bI,iw⟩:=bI;obtain⟨aD,cI⟩:=aD;obtain⟨fD,kV⟩:=fD;obtain⟨cG,sS⟩:=cG;have gd:=fun W h=>Ju2 p a W (hp.later h);obtain⟨A1,c1,A2,c2,A3,c3,A4,c4⟩:=a;unfold prV at gd ⊢;dsimp only at *
 cases hw:Qw p
 ·have hv:K5 p=4:=by unfold K5;rw [hw];rfl
  have hs:X8 p=⟨#[]⟩:=by unfold X8;rw [hv];rfl
  have HS:=Nf hs;clear hs;have HV:=Nf hv;clear hv
  go_enter Tryz.func8,Tryz.ntmps8
  go_wp2_with (first|(go_at_call 22;refine mo (gd _ Jb) fun w1 ac ak af bV=>?_;(try simp at af)))
  go_ret2
  exact⟨by rw [HV.out,HS.out];rfl,Jb⟩
 obtain⟨aL,jT,jb,lj,qt⟩:=X4 hw;have hv:K5 p=if 4096<(Jal p).size then 3 else 0:=by unfold K5;rw [hw];rfl
 have HV:=Nf hv;clear hv;have vS:=Nf lj;clear lj;have qu:=Nf qt;clear qt;have mC:=fun W h=>Jpo p.ins A1 c1 jT n1 W (hp.ins.later h);have mD:=fun W h=>Jpo p.outs A2 c2 jb n2 W (hp.outs.later h);have z1:=Jjv jT;have z2:=Jjv jb;clear jT jb;have HPB:=Nf (show Jal p=Zs (Xr (if 0<p.locals.length then Ym p ++ ⟨#[118,97,114,10]⟩ else Ym p) p.locals ++ ⟨#[108,101,116,10]⟩) p.eqs ++ ⟨#[116,101,108,10]⟩ from rfl);have HHD:=Nf (show Ym p=⟨#[110,111,100,101,32]⟩ ++ p.name ++ ⟨#[32]⟩ ++ Y9 p.ins ++ ⟨#[32,114,101,116,117,114,110,115,32]⟩ ++ Y9 p.outs ++ ⟨#[59,10]⟩ from rfl);have y1:¬9223372036854775807<5+p.name.size:=Ua;have y2:¬9223372036854775807<5+p.name.size+1:=Ua;have y3:¬9223372036854775807<5+p.name.size+1+(Y9 p.ins).size:=Ua;have y4:¬9223372036854775807<5+p.name.size+1+(Y9 p.ins).size+9:=Ua;have y5:¬9223372036854775807<5+p.name.size+1+(Y9 p.ins).size+9+(Y9 p.outs).size:=Ua;have y6:¬9223372036854775807<5+p.name.size+1+(Y9 p.ins).size+9+(Y9 p.outs).size+2:=Ua;generalize Y9 p.ins=t1 at *;generalize Y9 p.outs=t2 at *
 go_enter Tryz.func8,Tryz.ntmps8
 go_wp2_with (first|(go_at_call 22;refine mo (gd _ Jb) fun w1 ac ak af bV=>?_;(try simp at af)))
 have hy1':=lt0 w w1;refine Jx Ue Ue (fun bj=>?_)
 repeat (quiet_step ((first|(go_at_call_of 23 A1;exact Calls.regrown_of (mC _ Jb))|(go_at_call_of 23 A2;exact Calls.regrown_of (mD _ Jb)))))
 refine wpQuiet_nil ?_;intro wq au;replace au:=qbo au;obtain⟨au,dA,bh⟩:=au;clear bj
 (try simp at bh)
 by_cases qv:0<p.locals.length
 ·have qw:(if 0<p.locals.length then Ym p ++ ⟨#[118,97,114,10]⟩ else Ym p)=Ym p ++ ⟨#[118,97,114,10]⟩:=if_pos qv;have vT:=Nf qw;clear qw
  go_wp2_with fail
  refine Jo fun W0 ag=>?_;have ax:=Nd w W0 Uz;have bD:w.heap.size<W0.heap.size:=S7;have k4:=Nb W0 w.heap.size 4 (.slice A4 p.eqs.length c4) Uf;clear ag;have ip:=hp.locals.later ax;have bT:=hp.eqs.later ax;dsimp only at ip bT
  go_loopw [4,35] (fun o i wr=>∃(k:Nat) (s:ByteArray),k<=p.locals.length/\i = .int .i64 k/\o = .string s/\s.size<=200000000+70 * k/\Xr s (p.locals.drop k)=Xr (Ym p ++ ⟨#[118,97,114,10]⟩) p.locals/\Below W0.heap.size W0 wr) (fun _ i _=>p.locals.length-(intOf i).toNat)
  case atStart=>exact⟨0,_,Np,rfl,rfl,Up,by rw [HHD.out];rfl,Nt⟩
  case round=>
   obtain⟨k,sx,hk,rfl,rfl,rV,aa,ab⟩:=hrel;have hc:=Jg ab;have bu:=ab.size
   by_cases am:k<p.locals.length
   ·obtain⟨x,hx,-,hd⟩:=Kl am;obtain⟨b,off,rfl,aH,⟨d0,d1,d2,d3⟩⟩:=(ip.later ab).get hx;rw [hd,Xr] at aa;have mn:=vS.out x (Ni hx);have hds:=Jc9 mn;have eA:=fun W=>Jpg x mn W;unfold vaV at eA;have HR:=Nf aa;clear aa hd hx;exact Uaf
   ·exact Tf
 ·have qw:(if 0<p.locals.length then Ym p ++ ⟨#[118,97,114,10]⟩ else Ym p)=Ym p:=if_neg qv;have vT:=Nf qw;clear qw
  go_wp2_with fail
  refine Jo fun W0 ag=>?_;have ax:=Nd w W0 Uz;have bD:w.heap.size<W0.heap.size:=S7;have k4:=Nb W0 w.heap.size 4 (.slice A4 p.eqs.length c4) Uf;clear ag;have ip:=hp.locals.later ax;have bT:=hp.eqs.later ax;dsimp only at ip bT
  go_loopw [4,35] (fun o i wr=>∃(k:Nat) (s:ByteArray),k<=p.locals.length/\i = .int .i64 k/\o = .string s/\s.size<=200000000+70 * k/\Xr s (p.locals.drop k)=Xr (Ym p) p.locals/\Below W0.heap.size W0 wr) (fun _ i _=>p.locals.length-(intOf i).toNat)
  case atStart=>exact⟨0,_,Np,rfl,rfl,Up,by rw [HHD.out];rfl,Nt⟩
  case round=>
   obtain⟨k,sx,hk,rfl,rfl,rV,aa,ab⟩:=hrel;have hc:=Jg ab;have bu:=ab.size
   by_cases am:k<p.locals.length
   ·exfalso;omega
   ·exact Tf
theorem Jzt (e:Ex) (l:List Va) (A:Option Addr) (cap B:Nat) (Ae:Option Addr) (ce:Nat) (w:World) (hk:e.kind=1) (aU:Ex.typL l e.sub=([],0)) (dI:e.name.toList.isEmpty=true)
  (av:Q7 e l A cap B Ae ce w) (aF:Xz e l A cap B w) :
  Calls Tryz.prog 139 #[Q6 l A cap B,exV e Ae ce] w fun r w'=>r = .returned (.tuple #[.int .i64 (e.typ l).1,.int .i64 (e.typ l).2])/\Below w.heap.size w w':=by
 have hv:e.typ l=Y2 l e.kind e.n e.name []:=Lp;rw [hk,Y2,if_neg Ll] at hv;have dS:(Ex.typL l e.sub).1 = []:=F5;have lG:(Ex.typL l e.sub).2=0:=F5;clear aU;unfold Q7 at av;unfold Xz at aF;have q1:(e.kind == 1)=true:=Uk;clear hk;unfold Q6 exV at *;simp [Je3,Jbl] at hv;have HV:=Nf hv;clear hv
 go_enter Tryz.func139,Tryz.ntmps139
 go_wp2_with (first|(go_at_call 148;refine(av _ Jb).mono ?_;rintro r w1 ⟨⟨v,rfl,ae⟩,ac⟩;have ⟨ak,af⟩:=aft ac;(try simp at af);have bV:=alt ac;rw [dS] at ae)|(go_at_call 149;refine(aF _ Jb).mono ?_;rintro r w1 ⟨rfl,ac⟩;have ⟨ak,af⟩:=aft ac;(try simp at af);have bV:=alt ac;(try have eC:=Nr aG ac.size)))
 go_ret2
 exact⟨Vb,Jb⟩
theorem Jzr (e:Ex) (l:List Va) (A:Option Addr) (cap B:Nat) (Ae:Option Addr) (ce:Nat) (w:World) (hk:e.kind=2) (aU:Ex.typL l e.sub=([],0)) (dI:e.name.toList.isEmpty=true)
  (av:Q7 e l A cap B Ae ce w) (aF:Xz e l A cap B w) :
  Calls Tryz.prog 139 #[Q6 l A cap B,exV e Ae ce] w fun r w'=>r = .returned (.tuple #[.int .i64 (e.typ l).1,.int .i64 (e.typ l).2])/\Below w.heap.size w w':=by
 have hv:e.typ l=Y2 l e.kind e.n e.name []:=Lp;rw [hk,Y2,if_neg Ll] at hv;have dS:(Ex.typL l e.sub).1 = []:=F5;have lG:(Ex.typL l e.sub).2=0:=F5;clear aU;unfold Q7 at av;unfold Xz at aF;have q1:(e.kind == 1)=false:=Uk;have q2:(e.kind == 2)=true:=Uk;clear hk;unfold Q6 exV at *;simp [Je3,Jbl] at hv;have HV:=Nf hv;clear hv
 go_enter Tryz.func139,Tryz.ntmps139
 go_wp2_with (first|(go_at_call 148;refine(av _ Jb).mono ?_;rintro r w1 ⟨⟨v,rfl,ae⟩,ac⟩;have ⟨ak,af⟩:=aft ac;(try simp at af);have bV:=alt ac;rw [dS] at ae)|(go_at_call 149;refine(aF _ Jb).mono ?_;rintro r w1 ⟨rfl,ac⟩;have ⟨ak,af⟩:=aft ac;(try simp at af);have bV:=alt ac;(try have eC:=Nr aG ac.size)))
 go_ret2
 exact⟨Vb,Jb⟩
theorem Jzx (e:Ex) (l:List Va) (A:Option Addr) (cap B:Nat) (Ae:Option Addr) (ce:Nat) (w:World) (hk:e.kind=3) (aU:Ex.typL l e.sub=([],0)) (dI:e.name.toList.isEmpty=false) (nP:(K7 l e.name).2=true)
  (av:Q7 e l A cap B Ae ce w) (aF:Xz e l A cap B w) :
  Calls Tryz.prog 139 #[Q6 l A cap B,exV e Ae ce] w fun r w'=>r = .returned (.tuple #[.int .i64 (e.typ l).1,.int .i64 (e.typ l).2])/\Below w.heap.size w w':=by
 have hv:e.typ l=Y2 l e.kind e.n e.name []:=Lp;rw [hk,Y2,if_neg Ll] at hv;have dS:(Ex.typL l e.sub).1 = []:=F5;have lG:(Ex.typL l e.sub).2=0:=F5;clear aU;unfold Q7 at av;unfold Xz at aF;have q1:(e.kind == 1)=false:=Uk;have q2:(e.kind == 2)=false:=Uk;have q3:(e.kind == 3)=true:=Uk;clear hk;unfold Q6 exV at *;generalize aL:(K7 l e.name).1=nm at hv aF;clear aL
 rcases(show nm=1\/nm=2\/(nm≠1/\nm≠2) from by omega) with rfl|rfl|⟨n1,n2⟩
 ·replace hv:e.typ l=(1,0):=by rw [hv];rfl
  exact Bj
 ·replace hv:e.typ l=(2,0):=by rw [hv];rfl
  exact Bj
 ·replace hv:e.typ l=(0,20):=by rw [hv];exact if_neg (by rintro⟨_,h⟩;exact h.elim n1 n2)
  have m1:(nm != 1)=true:=by simpa using n1
  have m2:(nm != 2)=true:=by simpa using n2
  clear n1 n2;exact Bj
theorem Kac (e:Ex) (l:List Va) (A:Option Addr) (cap B:Nat) (Ae:Option Addr) (ce:Nat) (w:World) (t0:Int) (hk:e.kind=4) (aU:Ex.typL l e.sub=([t0],0)) (fQ:t0=1\/t0=2) (hn:e.n=1\/e.n=2) (dI:e.name.toList.isEmpty=true)
  (av:Q7 e l A cap B Ae ce w) (aF:Xz e l A cap B w) :
  Calls Tryz.prog 139 #[Q6 l A cap B,exV e Ae ce] w fun r w'=>r = .returned (.tuple #[.int .i64 (e.typ l).1,.int .i64 (e.typ l).2])/\Below w.heap.size w w':=by
 have hv:e.typ l=Y2 l e.kind e.n e.name [t0]:=Lp;rw [hk,Y2,if_neg Ll] at hv;have dS:(Ex.typL l e.sub).1 = [t0]:=F5;have lG:(Ex.typL l e.sub).2=0:=F5;clear aU;unfold Q7 at av;unfold Xz at aF;have q1:(e.kind == 1)=false:=Uk;have q2:(e.kind == 2)=false:=Uk;have q3:(e.kind == 3)=false:=Uk;have q4:(e.kind == 4)=true:=Uk;clear hk;unfold Q6 exV at *
 rcases fQ with rfl|rfl <;> rcases hn with hn|hn <;>
 ·rw [hn] at hv;simp [Je3,Jbl] at hv
  (try have eR:(e.n == 1)=true:=by rw [hn];rfl)
  (try have eR:(e.n == 1)=false:=by rw [hn];rfl)
  (try have eu:(e.n == 2)=true:=by rw [hn];rfl)
  (try have eu:(e.n == 2)=false:=by rw [hn];rfl)
  clear hn;have HV:=Nf hv;clear hv
  go_enter Tryz.func139,Tryz.ntmps139
  go_wp2_with (first|(go_at_call 148;refine(av _ Jb).mono ?_;rintro r w1 ⟨⟨v,rfl,ae⟩,ac⟩;have ⟨ak,af⟩:=aft ac;(try simp at af);have bV:=alt ac;rw [dS] at ae;simp only [List.map_cons,List.map_nil,Nl,Nm,Nat.zero_add,Nat.reduceAdd] at ae;obtain⟨g,gc,rfl,eN,aG,bJ,cg,ah⟩:=Kc ae Ua;unfold maxLen at cg;have e0:=ah 0 _ rfl;clear ah ae)|(go_at_call 149;refine(aF _ Jb).mono ?_;rintro r w1 ⟨rfl,ac⟩;have ⟨ak,af⟩:=aft ac;(try simp at af);have bV:=alt ac;(try have eC:=Nr aG ac.size)))
  go_ret2
  exact⟨Vb,Jb⟩
theorem Jru (e:Ex):∀(A:Option Addr) (cap:Nat) (most:Int) (w:World),Jt w e A cap->-1000000<=most->most<=1000000->
  Calls Tryz.prog 146 #[exV e A cap,.int .i64 most] w fun r w'=>r = .returned (.int .i64 (e.count most))/\Below w.heap.size w w':=by
 induction e using Ex.ind with
 | h e ih=>
 intro A cap most w he hm cI;have hl:=he.len;unfold maxLen at hl;obtain⟨bI,aD⟩:=hl;unfold exV
 go_enter Tryz.func146,Tryz.ntmps146
 go_wp2_with fail
 refine Jo fun W0 ag=>?_;have ax:=Nd w W0 Uz;have bD:w.heap.size<W0.heap.size:=Vu;have p3:=Nb W0 w.heap.size 3 (.slice A e.sub.length cap) Uf;clear ag;replace he:=he.later ax
 go_loopw [5,6] (fun m i wr=>∃(k:Nat) (m':Int),k<=e.sub.length/\i = .int .i64 k/\m = .int .i64 m'/\1<=m'/\m'<=max 1 most/\Ex.countL (e.sub.drop k) m' most=e.count most/\Below W0.heap.size W0 wr) (fun _ i _=>e.sub.length-(intOf i).toNat)
 case atStart=>exact⟨0,1,Np,rfl,rfl,Ua,Ua,by simp [Ex.count_eq],Nt⟩
 case round=>
  obtain⟨k,m',hk,rfl,rfl,h0,h1,aa,ab⟩:=hrel;have hc:=Jg ab;have bu:=ab.size
  by_cases am:k<e.sub.length
  ·obtain⟨x,hx,aj,hd⟩:=Kl am;obtain⟨b,off,A',cap',rfl,c0,c1,c2,c3,hs⟩:=(he.later ab).get hx;rw [hd,Ex.countL] at aa;have ct:=Ex.count_bd x (most-m');have ihx:=ih x aj
   by_cases qK:m'>=most
   ·rw [if_pos qK] at aa;have HR:=Nf aa;clear aa hd hx;have uM:¬m'<most:=Ua;exact Uc2
   ·rw [if_neg qK] at aa;have HR:=Nf aa;clear aa hd hx;have uM:m'<most:=Ua
    go_wp2_with (go_at_call 146;refine(ihx A' cap' (most-m') _ (hs.later Jb) Ua Ua).mono ?_;rintro r w1 ⟨rfl,ac⟩)
    exact Uba
  ·exact Uas
theorem Jz.keep1 {P:Program} {k e:TypeId} {w w':World} {b n:Nat} {f:ByteArray->Option Int} (h:Jz P k e w b n f) (hb:w'.heap[b]?=w.heap[b]?):Jz P k e w' b n f:=by
 obtain⟨D,h1,h2,h3⟩:=h;obtain⟨es,clock,hh,F,hs,hD⟩:=h1;exact⟨D,⟨es,clock,hb.trans hh,F,hs,hD⟩,h2,h3⟩
structure Chg (bo B:Nat) (r:Option Nat) (W W':World):Prop where
 os:W'.os=W.os
 tape:W'.tape=W.tape
 output:W'.output=W.output
 size:W.heap.size<=W'.heap.size
 block:∀k,k<W.heap.size->k≠bo->k≠B->some k≠r->W'.heap[k]?=W.heap[k]?
theorem Chg.bel {bo B:Nat} {r:Option Nat} {W W':World} (h:Below W.heap.size W W'):Chg bo B r W W':=⟨h.os,h.tape,h.output,h.size,fun k hk _ _ _=>h.block k hk⟩
theorem Chg.grown {bo B:Nat} {r r':Option Nat} {W W':World} (h:W.grownBy W' r') (hr:r'=some bo\/r'=some B\/r'=r):Chg bo B r W W':=
 ⟨h.os,h.tape,h.output,h.size,fun k hk h1 h2 h3=>h.block k hk fun he=>by
  rcases hr with hr|hr|hr
  ·rw [hr] at he;injection he with he;exact h1 he
  ·rw [hr] at he;injection he with he;exact h2 he
  ·rw [hr] at he;exact h3 he⟩
theorem Chg.trans {bo B:Nat} {r0 r1:Option Nat} {a b c:World} (h1:Chg bo B r0 a b) (h2:Chg bo B r1 b c) (hr:r1=r0\/∀k,r1=some k->a.heap.size<=k):Chg bo B r0 a c:=
 ⟨h2.os.trans h1.os,h2.tape.trans h1.tape,h2.output.trans h1.output,Nat.le_trans h1.size h2.size,fun k hk cW hB aS=>(h2.block k (Nr hk h1.size) cW hB (by
  rcases hr with rfl|hr
  ·exact aS
  ·intro he;have:=hr k he.symm;omega)).trans (h1.block k hk cW hB aS)⟩
theorem Chg.setCell {bo B:Nat} {r:Option Nat} {W W':World} (h:Chg bo B r W W') (o:Nat) (u:Value):Chg bo B r W (W'.setCell ⟨bo,o,none⟩ u):=
 ⟨h.os,h.tape,h.output,by have:=h.size;simpa using this,fun k hk h1 h2 h3=>(heap_setCell_other W' ⟨bo,o,none⟩ k u h1).trans (h.block k hk h1 h2 h3)⟩
end Go.Proofs.YtdgjplldlfeolaaGreatDoor
namespace Go.Proofs.YtdgjplldlfeolaaGreatDoor
open Go.RowKit
def ofF (e:Ex) (l:List Va):Int×Int:=if e.right≠0 then(0,e.right) else e.typ l
end Go.Proofs.YtdgjplldlfeolaaGreatDoor
namespace Go.Proofs.YtdgjplldlfeolaaGreatDoor
open Go.RowKit Go.Sort
theorem Jon:(Tryz.prog.info? 73).map (fun i=>(i.zero,i.size,i.bytes))=some (some (.agg #[.int .i64 0,.int .i32 0,.string ⟨#[]⟩,.slice none 0 0]),4,56):=Ue
theorem Jls {α:Type} (l:List α):l = []\/∃(a:List α) (b:α),l=a ++ [b]:=by
 rcases List.eq_nil_or_concat l with h|⟨a,b,h⟩
 ·exact .inl h
 ·exact .inr ⟨a,b,by rw [h,List.concat_eq_append]⟩
theorem Jw8 {w:World} {base size n m cap:Nat} {e:TypeId} {D:Option Addr} {xs ys:List Value} (h:w.ownsRow base e size (.slice D (n+m) cap) (n+m) (xs ++ ys)) (hx:xs.length=n * size):w.ownsRow base e size (.slice D n cap) n xs:=by
 refine⟨hx,?_⟩
 rcases h.2 with ⟨hv,h0⟩|⟨g,cap',cur,hv,hg,hh,h1,h2,h3,h4⟩
 ·injection hv with e1 e2 e3;subst e1 e3;obtain rfl:n=0:=Ua;exact .inl ⟨rfl,rfl⟩
 ·injection hv with e1 e2 e3;subst e1 e3;refine .inr ⟨g,cap,cur,rfl,hg,hh,Ua,h2,h3,?_⟩;have:(cur.toList.take ((n+m) * size)).take (n * size)=xs:=by rw [h4,List.take_append_of_le_length Ua,<-hx,List.take_length]
  rwa [List.take_take,Nat.min_eq_left (Nat.mul_le_mul_right _ Ua)] at this
theorem Jj7:∀(l:List Ex) (ls:List (Option Addr×Nat)),ls.length=l.length->(Ya l ls).length=l.length * 4
 | [],[],_=>rfl
 | y :: l,b :: ls,h=>by
  have:=Jj7 l ls Vl;rw [Ya,Nk,this];simp [exC];omega
 | [],b :: ls,h=>Lc
 | y :: l,[],h=>Lc
theorem Jot:∀(l m:List Ex) (ls ms:List (Option Addr×Nat)),ls.length=l.length->Ya (l ++ m) (ls ++ ms)=Ya l ls ++ Ya m ms
 | [],m,[],ms,_=>by simp [Ya]
 | y :: l,m,b :: ls,ms,h=>by
  simp only [List.cons_append,Ya,List.append_assoc];rw [Jot l m ls ms Vl]
 | [],m,b :: ls,ms,h=>Lc
 | y :: l,m,[],ms,h=>Lc
theorem Xv.lies {w:World} {b:Nat} : ∀(l:List Ex) (off:Nat),Xv w b l off->∃ls:List (Option Addr×Nat),ls.length=l.length/\(∀j u,(Ya l ls)[j]?=some u->w.cell? ⟨b,off+j,none⟩=some u)/\∀(j:Nat) (x:Ex) (a:Option Addr×Nat),l[j]?=some x->ls[j]?=some a->Jt w x a.1 a.2
 | [],off,_=>⟨[],rfl,by simp [Ya],Uh⟩
 | y :: l,off,h=>by
  rw [Xv] at h;obtain⟨⟨A,cap,c0,c1,c2,c3,hs⟩,hr⟩:=h;obtain⟨ls,h1,h2,h3⟩:=Xv.lies l (off+4) hr;refine⟨(A,cap) :: ls,by simp [h1],fun j u hj=>?_,fun j x a hx ha=>?_⟩
  ·rw [Ya] at hj
   match j with
   | 0=>
     obtain rfl:Value.int .i64 y.kind=u:=Gm;exact c0
   | 1=>
     obtain rfl:Value.int .i32 y.n=u:=Gm;exact c1
   | 2=>
     obtain rfl:Value.string y.name=u:=Gm;exact c2
   | 3=>
     obtain rfl:Value.slice A y.sub.length cap=u:=Gm;exact c3
   | j+4=>
    have:=h2 j u Gm
    rwa [show off+4+j=off+(j+4) from by omega] at this
  ·cases j with
   | zero=>
    simp at hx ha;subst hx ha;exact hs
   | succ j=>exact h3 j x a Do (by simpa using ha)
theorem Jt.lies {w:World} {e:Ex} {A:Option Addr} {cap:Nat} (h:Jt w e A cap):∃ls:List (Option Addr×Nat),ls.length=e.sub.length/\X6 w A e.sub.length 4 (Ya e.sub ls)/\∀(j:Nat) (x:Ex) (a:Option Addr×Nat),e.sub[j]?=some x->ls[j]?=some a->Jt w x a.1 a.2:=by
 rw [Jao] at h
 rcases Nat.eq_zero_or_pos e.sub.length with h0|h0
 ·have hn:e.sub = []:=List.eq_nil_of_length_eq_zero h0;rw [hn];exact⟨[],rfl,⟨rfl,fun h=>absurd h Uh⟩,Uh⟩
 ·obtain⟨b,off,rfl,hr⟩:=h.2.2 h0;obtain⟨ls,h1,h2,h3⟩:=Xv.lies _ _ hr;exact⟨ls,h1,⟨Jj7 _ _ h1,fun _=>⟨b,off,rfl,h2⟩⟩,h3⟩
def Jca (w0 w:World) (base:Nat) (t:TypeId) (st:List Ex) (D:Option Addr) (dc:Nat):Prop:=
 ∃ls:List (Option Addr×Nat),ls.length=st.length/\(∀(j:Nat) (x:Ex) (a:Option Addr×Nat),st[j]?=some x->ls[j]?=some a->Jt w0 x a.1 a.2)/\w.ownsRow base t 4 (.slice D st.length dc) st.length (Ya st ls)
theorem Jca.pop {w0 w:World} {base:Nat} {t:TypeId} {st:List Ex} {x:Ex} {D:Option Addr} {dc:Nat} (h:Jca w0 w base t (st ++ [x]) D dc) :
  ∃b A cap,D=some ⟨b,0,none⟩/\base<=b/\b<w.heap.size/\st.length+1<=dc/\dc<=maxLen/\Jt w0 x A cap/\w.cell? ⟨b,st.length * 4,none⟩=some (.int .i64 x.kind)/\w.cell? ⟨b,st.length * 4+1,none⟩=some (.int .i32 x.n)/\
   w.cell? ⟨b,st.length * 4+2,none⟩=some (.string x.name)/\w.cell? ⟨b,st.length * 4+3,none⟩=some (.slice A x.sub.length cap)/\Jca w0 w base t st D dc:=by
 obtain⟨ls,hl,hs,ae⟩:=h
 rcases Jls ls with rfl|⟨ls',a,rfl⟩
 ·simp at hl
 ·have qM:ls'.length=st.length:=by simpa using hl
  rw [Jih st ls' x a qM,Nk] at ae;obtain⟨g,cap,hv,hg,am,h1,h2,hc⟩:=Kc ae Uh;injection hv with e1 e2 e3;subst e1 e3;have ai:=Jj7 st ls' qM;have ev:∀i u,(exC x a)[i]?=some u->w.cell? ⟨g,st.length * 4+i,none⟩=some u:=fun i u hu=>hc _ _ (by rw [List.getElem?_append_right Ua,ai,show st.length * 4+i-st.length * 4=i from by omega];exact hu);refine⟨g,a.1,a.2,rfl,hg,am,Lk,h2,hs st.length x a Uh (by rw [<-qM];simp),ev 0 _ rfl,ev 1 _ rfl,ev 2 _ rfl,ev 3 _ rfl,ls',qM,fun j y b hy hb=>?_,Jw8 ae ai⟩;have hj:j<st.length:=(Nh hy).1;exact hs j y b (by rw [List.getElem?_append_left hj];exact hy) (by rw [List.getElem?_append_left Ua];exact hb)
theorem Jca.push {w0 w:World} {base:Nat} {t:TypeId} {st sub:List Ex} {ls ms:List (Option Addr×Nat)} {D:Option Addr} {dc:Nat} (hl:ls.length=st.length) (hs:∀(j:Nat) (x:Ex) (a:Option Addr×Nat),st[j]?=some x->ls[j]?=some a->Jt w0 x a.1 a.2)
  (hm:ms.length=sub.length) (bd:∀(j:Nat) (x:Ex) (a:Option Addr×Nat),sub[j]?=some x->ms[j]?=some a->Jt w0 x a.1 a.2) (ae:w.ownsRow base t 4 (.slice D (st.length+sub.length) dc) (st.length+sub.length) (Ya st ls ++ Ya sub ms)):Jca w0 w base t (st ++ sub) D dc:=by
 refine⟨ls ++ ms,by simp [hl,hm],fun j x a hx ha=>?_,by rw [Jot _ _ _ _ hl,Nk];exact ae⟩
 rcases Nat.lt_or_ge j st.length with hj|hj
 ·rw [List.getElem?_append_left hj] at hx;rw [List.getElem?_append_left Ua] at ha;exact hs j x a hx ha
 ·rw [List.getElem?_append_right hj] at hx;rw [List.getElem?_append_right Ua,hl] at ha;exact bd _ x a hx ha
theorem X6.moved {w w':World} {A:Option Addr} {m size:Nat} {news:List Value} (h:X6 w A m size news) (hb:Below w.heap.size w w'):X6 w' A m size news:=
 ⟨h.1,fun hm=>by
  obtain⟨b,off,e,hc⟩:=h.2 hm;exact⟨b,off,e,fun j u hj=>Ja hb (hc j u hj)⟩⟩
theorem Jox:∀(l:List Ex) (ls:List (Option Addr×Nat)),∀u∈Ya l ls,u.oneCell'=true
 | [],_,u,h=>by simp [Ya] at h
 | y :: l,[],u,h=>by simp [Ya] at h
 | y :: l,b :: ls,u,h=>by
  rw [Ya] at h
  rcases List.mem_append.1 h with h1|h1
  ·simp only [exC,List.mem_cons,List.not_mem_nil,or_false] at h1
   rcases h1 with rfl|rfl|rfl|rfl <;> rfl
  ·exact Jox l ls u h1
theorem Qz:(Tryz.prog.info? 122).map (fun i=>(i.zero,i.size,i.bytes))=some (some (.agg #[.int .i64 0,.int .i32 0]),2,16):=Ue
def cdC (l:List (Int×Int)):List Value:=l.flatMap fun x=>[.int .i64 x.1,.int .i32 x.2]
theorem Jma:∀l:List (Int×Int),(cdC l).length=l.length * 2
 | []=>rfl
 | x :: l=>by
  have:=Jma l;unfold cdC at this ⊢;rw [List.flatMap_cons,Nk,this,Nl];exact Ui
theorem Jbr (a b:List (Int×Int)):cdC (a ++ b)=cdC a ++ cdC b:=by unfold cdC;simp
theorem Q2 (l:List (Int×Int)):∀u∈cdC l,u.oneCell'=true:=by
 intro u hu;unfold cdC at hu;rw [List.mem_flatMap] at hu;obtain⟨x,_,hx⟩:=hu;simp only [List.mem_cons,List.not_mem_nil,or_false] at hx
 rcases hx with rfl|rfl <;> rfl
theorem Joi:∀(l:List (Int×Int)) (k:Nat) (x:Int×Int),l[k]?=some x->(cdC l)[k * 2]?=some (.int .i64 x.1)/\(cdC l)[k * 2+1]?=some (.int .i32 x.2)
 | [],k,x,h=>Lc
 | y :: l,0,x,h=>by simp at h;subst h;exact⟨rfl,rfl⟩
 | y :: l,k+1,x,h=>by
  have:=Joi l k x Vl;have e:cdC (y :: l) = [.int .i64 y.1,.int .i32 y.2] ++ cdC l:=rfl;rw [e,show(k+1) * 2=2+k * 2 from by omega,List.getElem?_append_right Uh,List.getElem?_append_right Ui];simp only [Nl,Nm];rw [show 0+1+1=2 from rfl,show 2+k * 2-2=k * 2 from by omega,show 2+k * 2+1-2=k * 2+1 from by omega];exact this
def Kos (w:World) (l:List (Int×Int)) (A:Option Addr) (cap:Nat):Prop:=l.length<=cap/\cap<=maxLen/\X6 w A l.length 2 (cdC l)
theorem Jds {w w':World} {A:Option Addr} {m size:Nat} {news:List Value} (h:X6 w A m size news) (hb:Below w.heap.size w w'):X6 w' A m size news:=
 ⟨h.1,fun hm=>by
  obtain⟨b,off,hA,hc⟩:=h.2 hm;exact⟨b,off,hA,fun j u hj=>Ja hb (hc j u hj)⟩⟩
theorem Kos.later {w w':World} {l:List (Int×Int)} {A:Option Addr} {cap:Nat} (h:Kos w l A cap) (hb:Below w.heap.size w w'):Kos w' l A cap:=⟨h.1,h.2.1,Jds h.2.2 hb⟩
theorem Kos.of_own {w:World} {base:Nat} {e:TypeId} {l:List (Int×Int)} {v:Value} (h:w.ownsRow base e 2 v l.length (cdC l)):∃A cap,v = .slice A l.length cap/\Kos w l A cap:=by
 obtain⟨A,cap,rfl,h1,h2⟩:=Jv h;refine⟨A,cap,rfl,h1,h2,Jma l,fun hm=>?_⟩;exact Ubh
structure Jbv where
 l:List (Int×Int)
 A:Option Addr
 cap:Nat
def Jbv.val (x:Jbv):Value:= .slice x.A x.l.length x.cap
def Je1 (w:World) (ps:List Jbv) (A:Option Addr):Prop:=(0<ps.length->∃b off,A=some ⟨b,off,none⟩/\∀(k:Nat) (x:Jbv),ps[k]?=some x->w.cell? ⟨b,off+k,none⟩=some x.val)/\∀x∈ps,Kos w x.l x.A x.cap
theorem Je1.later {w w':World} {ps:List Jbv} {A:Option Addr} (h:Je1 w ps A) (hb:Below w.heap.size w w'):Je1 w' ps A:=
 ⟨fun hl=>by
  obtain⟨b,off,hA,hc⟩:=h.1 hl;exact⟨b,off,hA,fun k x hk=>Ja hb (hc k x hk)⟩,fun x hx=>(h.2 x hx).later hb⟩
def Qu (ps:List Jbv):List (Int×Int):=ps.flatMap Jbv.l
theorem Js3 {ps:List Jbv} {k:Nat} {x:Jbv} (h:ps[k]?=some x):Qu (ps.take (k+1))=Qu (ps.take k) ++ x.l:=by
 unfold Qu;rw [List.take_add_one,h];exact Uh
theorem Jnv {ps:List Jbv} {k:Nat} : (Qu (ps.take k)).length<=(Qu ps).length:=by
 have:Qu ps=Qu (ps.take k) ++ Qu (ps.drop k):=by unfold Qu;rw [<-List.flatMap_append,List.take_append_drop]
 rw [this,Nk];omega
end Go.Proofs.YtdgjplldlfeolaaGreatDoor
namespace Go.Proofs.YtdgjplldlfeolaaGreatDoor
open Go.RowKit Go.Sort Go.Maps Go.ChangeMaps Go.WideMaps
structure Jer (P:Program) (k:TypeId) {K:Type} (ok:K->Prop) (kv:K->Value) (kl:K->Lit):Prop where
 keyed:Keyed P k
 read:∀x,ok x->keyOf P k (kv x)=some (kl x)
 inj:∀x y,ok x->ok y->kl x=kl y->x=y
def Q3 (P:Program) (k e:TypeId) (q:IntKind) {K:Type} (ok:K->Prop) (kl:K->Lit) (w:World) (b n:Nat) (f:K->Option Int) (c:Nat):Prop:=
 ∃D:DataW Unit,w.ownsMap P k (plainElem P e) b n D/\Maps.Tidy D/\Maps.size D=c/\
  ∀x,ok x->Maps.has D (kl x)=(f x).isSome/\D.atKey (kl x) (.lit (.int q 0)) = .lit (.int q ((f x).getD 0))
section
variable {P:Program} {k e:TypeId} {q:IntKind} {K:Type} {ok:K->Prop} {kv:K->Value} {kl:K->Lit} {w w':World} {b n c:Nat} {f:K->Option Int}
theorem Q3.made (w:World):Q3 P k e q ok kl (w.alloc (.map #[] 0)) w.heap.size 0 (fun _=>none) 0:=
 ⟨.map [],World.ownsMap_made w P k _,Maps.tidy_empty,rfl,fun x _=>⟨rfl,rfl⟩⟩
theorem Q3.lt (h:Q3 P k e q ok kl w b n f c):b<w.heap.size:=by
 exact Ub7
theorem Q3.keep1 (h:Q3 P k e q ok kl w b n f c) (hb:w'.heap[b]?=w.heap[b]?):Q3 P k e q ok kl w' b n f c:=by
 exact Ubv
theorem Q3.bel (h:Q3 P k e q ok kl w b n f c) (hb:Below w.heap.size w w'):Q3 P k e q ok kl w' b n f c:=h.keep1 (hb.block b h.lt)
theorem Q3.more (h:Q3 P k e q ok kl w b n f c) {m:Nat} (hm:n<=m):Q3 P k e q ok kl w b m f c:=by
 obtain⟨D,h1,h2⟩:=h;exact⟨D,h1.mono hm,h2⟩
theorem Q3.same (h:Q3 P k e q ok kl w b n f c) {g:K->Option Int} (hg:∀x,ok x->g x=f x):Q3 P k e q ok kl w b n g c:=by
 obtain⟨D,h1,h2,h3,h4⟩:=h;exact⟨D,h1,h2,h3,fun x hx=>by rw [hg x hx];exact h4 x hx⟩
theorem Jr3 (ks:Jer P k ok kv kl) {ops:Array Oper} {rest:List Oper} {o:Oper} {a:Act} {Q:Exit->Act->World->Prop} (hg:o.guard=none) (m x v:Operand) (t:TypeId) (jf:o.op=Op.mapUpdate t m x v)
  (ht:P.underlying t=some (.map k e)) (he:P.underlying e=some (.int q))
  (b n:Nat) (f:K->Option Int) (c:Nat) (s:K) (i:Int) (hm:a.eval m = .map (some b)) (ae:Q3 P k e q ok kl w b n f c) (hn:n<1000000000) (hx:a.eval x=kv s) (hv:a.eval v = .int q i)
  (hs:ok s) (hi:(Lit.int q i).wf=true) (f':K->Option Int) (db:f' s=some i) (gO:∀y,ok y->y≠s->f' y=f y)
  (hK:∀w',Q3 P k e q ok kl w' b (n+1) f' (if (f s).isSome then c else c+1)->w.grownBy w' (some b)->wpList P ops Q rest (a.put o.dst undef) w'):wpList P ops Q (o :: rest) a w:=by
 obtain⟨D,h1,h2,hc,h3⟩:=ae;have fR:WideAt.IsKeyLit (kl s):=ks.keyed.key (ks.read s hs);refine wpList_mapUpdate_own w hg m x v t jf k e ks.keyed ht _ b n D hm h1 Uo _ _ _ hx hv (ks.read s hs) _ [] (plainElem_int he hi) fun w' h4 h5=>hK w' ⟨_,h4,h2.put fR _,?_,fun y hy=>?_⟩ h5
 ·rw [Maps.size_put h2,(h3 s hs).1,hc]
 ·by_cases oJ:y=s
  ·subst oJ;rw [has_put_same h2.isMap fR,atKey_put_same h2.isMap fR,db];exact Uh
  ·have aS:kl y≠kl s:=fun h=>oJ (ks.inj y s hy hs h);rw [has_put_other aS,atKey_put_other aS,(h3 y hy).1,(h3 y hy).2,gO y hy oJ];exact⟨rfl,rfl⟩
end
def okS (s:ByteArray):Prop:=s.size<=maxLen
def klS (s:ByteArray):Lit:= .string s.data.toList
theorem Jc2 {P:Program} {k:TypeId} (hk:P.underlying k=some .string):Jer P k okS Value.string klS:=
 ⟨string_keyed hk,fun _ hs=>keyOf_string_mk hk hs,fun x y _ _ h=>by
  unfold klS at h;injection h with h
  ext1
  have:=congrArg List.toArray h;simpa using this⟩
def okC (c:Int×ByteArray):Prop:=I64 c.1/\c.2.size<=maxLen
def kvC (c:Int×ByteArray):Value:= .agg #[.int .i64 c.1,.string c.2]
def klC (c:Int×ByteArray):Lit:= .string (keyBytes [.int .i64 c.1,.string c.2.data.toList])
theorem Jok {n:Int} (h:I64 n):(Lit.int .i64 n).wf=true:=by
 unfold I64 at h;simp [Lit.wf,IntKind.min,IntKind.max,IntKind.signed,IntKind.bits];omega
theorem Jrm {x y:Int×ByteArray} (hx:okC x) (hy:okC y) (h:klC x=klC y):x=y:=by
 unfold klC at h;injection h with h
 have hw:∀z:Int×ByteArray,okC z->∀a∈[Lit.int .i64 z.1,Lit.string z.2.data.toList],a.keyWf:=by
  intro z hz a ha;simp only [List.mem_cons,List.not_mem_nil,or_false] at ha
  rcases ha with rfl|rfl
  ·exact Jok hz.1
  ·show z.2.data.toList.length<=maxLen;simpa using hz.2
 have:=keyBytes_inj (l:=[.int .i64 x.1,.string x.2.data.toList]) (l':=[.int .i64 y.1,.string y.2.data.toList]) ⟨rfl,trivial,trivial⟩ (hw x hx) (hw y hy) h;injection this with h1 h2;injection h1 with _ h1;injection h2 with h2;injection h2 with h2;refine Prod.ext h1 ?_
 ext1
 have:=congrArg List.toArray h2;simpa using this
theorem Jp8:(81:TypeId)<Tryz.prog.types.size:=of_decide_eq_true Ue
theorem Jpk:KeyLaw Tryz.prog 81:=deep_law_laid Tryz.laidOut (m:=3) Ua Jp8 Ue Ue
theorem Juf (c:Int×ByteArray) (hc:okC c):keyOf Tryz.prog 81 (kvC c)=some (klC c):=by
 obtain⟨h1,h2⟩:=hc;have hk:Tryz.prog.keyType 81=true:=Ue
 have hf:(kvC c).formed Tryz.prog 81=true:=by
  unfold kvC Value.formed;rw [Tryz.underlying81,Jeq];exact Gp
 have hw:=Jok h1
 have hl:Tryz.prog.keyLits (Tryz.prog.types.size+1) 81 (kvC c).cells.toList=some [.int .i64 c.1,.string c.2.data.toList]:=by
  obtain⟨n,hn⟩:∃n,Tryz.prog.types.size=n+1:=⟨Tryz.prog.types.size-1,(Nat.succ_pred_eq_of_pos (Nat.lt_of_le_of_lt (Np) Jp8)).symm⟩;rw [hn];unfold Program.keyLits;rw [Tryz.underlying81];simp [kvC,Value.cells,Jeq,Jdi,Ja1,Program.keyLits,Tryz.underlying3,Tryz.underlying9,hw,h2]
 unfold keyOf;rw [Tryz.underlying81];simp only [hk,hf,hl,Bool.and_self,if_true,Option.map_some];exact Gp
theorem Jl0:Jer Tryz.prog 81 okC kvC klC:=⟨Keyed.of_law Jpk,Juf,fun _ _=>Jrm⟩
end Go.Proofs.YtdgjplldlfeolaaGreatDoor
