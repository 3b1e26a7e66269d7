/- Lemmas. -/
import Derived.Test.YtknfcamdfdfoeaaGreatDoorMac
import Derived.Test.YtknfcamdfdfoeaaGreatDoorZ26
import Derived.IntWalk
import Derived.Test.YtknfcamdfdfoeaaGreatDoorZ12
import Derived.Test.YtknfcamdfdfoeaaGreatDoorZ24
import Derived.Test.YtknfcamdfdfoeaaGreatDoorZ10
import Derived.Test.YtknfcamdfdfoeaaGreatDoorZ08
import Derived.Test.YtknfcamdfdfoeaaGreatDoorZ13
set_option linter.unusedVariables false
set_option linter.unusedSimpArgs false
set_option maxRecDepth 100000
set_option maxHeartbeats 64000000
namespace Go.Proofs.YtknfcamdfdfoeaaGreatDoor
open Go.RowKit Go.Sort
theorem Kaf (l:List Va) (A:Option Addr) (cap:Nat) (e:Ex) (ih:∀x∈e.sub,Jcr l A cap x) (Ae:Option Addr) (ce:Nat) (w:World) (he:Jt w e Ae ce) (hl:Ju w l A cap) (h3:e.sub.length<=3) (hk:e.kind=5) (aL:e.name.toList.isEmpty=true) (t0 t1:Int) (aU:Ex.typL l e.sub=([t0,t1],0)) (h1:e.sub.length=2) (fQ:t0=1\/t0=2) (gJ:t1=1\/t1=2) (eR:1<=e.n) (hn16:e.n<=16) (hv:e.typ l=Zk (Jbw e.n (Y1 t0 t1))) :
  Calls Tryz.prog 160 #[exV e Ae ce,.slice A l.length cap] w fun r w'=>r = .returned (.tuple #[.int .i64 (e.typ l).1,.int .i64 (e.typ l).2])/\Below w.heap.size w w':=by
 have q1:(e.kind == 1)=false:=Ud;have q2:(e.kind == 2)=false:=Ud;have q3:(e.kind == 3)=false:=Ud;have q4:(e.kind == 4)=false:=Ud;have q5:(e.kind == 5)=true:=Ud;clear fQ gJ;have dM:(Ex.typL l e.sub).2=0:=L2;have HB:=Lib.hid dM;clear dM;have gn:=Lib.hid aU;clear aU;have H1:=Lib.hid h1;clear h1;clear hk;have HV:=Lib.hid hv;clear hv;have ai:=he.len;unfold maxLen at ai;obtain⟨bI,aD⟩:=ai;have hT:=Lib.hid (show Ku [] (Ex.typL l (e.sub.drop 0))=Ex.typL l e.sub from Xq _ (Yb l e.sub));unfold exV
 go_enter Tryz.func160,Tryz.ntmps160
 go_wp2_with fail
 refine Jo fun W0 ag=>?_;have ax:Below w.heap.size w W0:=Uo;have bD:w.heap.size<W0.heap.size:=Us;have p0:W0.cell? ⟨w.heap.size,0,none⟩=some (.int .i64 e.kind):=Uc;have p1:W0.cell? ⟨w.heap.size,1,none⟩=some (.int .i32 e.n):=Uc;have p2:W0.cell? ⟨w.heap.size,2,none⟩=some (.string e.name):=Uc;have p3:W0.cell? ⟨w.heap.size,3,none⟩=some (.slice Ae e.sub.length ce):=Uc;clear ag;replace he:=he.later ax;replace hl:=hl.later ax
 go_loopw [6,7] (fun v i wr=>∃(k:Nat) (acc:List Int),k<=e.sub.length/\i = .int .i64 k/\acc.length=k/\wr.ownsRow W0.heap.size 3 1 v k (acc.map (Value.int .i64))/\Ku acc (Ex.typL l (e.sub.drop k))=Ex.typL l e.sub/\Below W0.heap.size W0 wr) (fun _ i _=>e.sub.length-(intOf i).toNat)
 case atStart=>exact⟨0,[],Nat.zero_le _,rfl,rfl,World.ownsRow_nil _ _ _ _,hT.out,Below.refl _ _⟩
 case round=>
  obtain⟨k,acc,hk,rfl,aR,ae,aa,ab⟩:=hrel;have hc:=Jg ab;have bu:=ab.size;have af:w.heap.size<wr.heap.size:=Ua;have dt:=Lib.hid aR;clear aR
  by_cases am:k<e.sub.length
  ·exact Uel
  ·have bk:k=e.sub.length:=Ua;rw [bk,List.drop_length,Ex.typL,Ku,if_pos rfl,List.append_nil,gn.out] at aa;have aR:acc = [t0,t1]:=Dh;subst aR;have cD:k=2:=Fm;have HK:=Lib.hid bk;clear aa bk;rw [cD] at ae;obtain⟨g,gc,rfl,eN,aG,bJ,cg,ah⟩:=Kc ae Ua;unfold maxLen at cg;have e0:wr.cell? ⟨g,0,none⟩=some (.int .i64 t0):=ah 0 _ rfl;have e1:wr.cell? ⟨g,1,none⟩=some (.int .i64 t1):=ah 1 _ rfl;have eT:g<wr.heap.size+1:=Ua;have eR:(1:Int)<((2:Nat):Int):=Ua;clear ah ae cD
   by_cases hm:Jbw e.n (Y1 t0 t1)=1\/Jbw e.n (Y1 t0 t1)=2
   ·have aI:=HV.out;unfold Zk at aI;rw [if_pos hm] at aI;have bL:=Lib.hid aI;clear aI
    rcases hm with hm|hm
    ·have m1:(Jbw e.n (Y1 t0 t1) != 1)=false:=by rw [hm];rfl
     exact Ueu
    ·have m1:(Jbw e.n (Y1 t0 t1) != 1)=true:=by rw [hm];rfl
     have m2:(Jbw e.n (Y1 t0 t1) != 2)=false:=by rw [hm];rfl
     exact Ueu
   ·have aI:=HV.out;unfold Zk at aI;rw [if_neg hm] at aI;have bL:=Lib.hid aI;clear aI;have m1:(Jbw e.n (Y1 t0 t1) != 1)=true:=Uj;have m2:(Jbw e.n (Y1 t0 t1) != 2)=true:=Uj;exact Ueu
theorem Jia {a b:Int} (ha:a=1\/a=2):Zk (Y1 a b)=if a=b then(a,0) else(0,20):=by
 unfold Y1 Zk
 by_cases h:a=b
 ·rw [if_pos h,if_pos ha,if_pos h]
 ·rw [if_neg h,if_neg Ua,if_neg h]
theorem Jrc {a:Int} (ha:a=1\/a=2):Zk a=(a,0):=by unfold Zk;rw [if_pos ha]
theorem Jsb {e:Ex} (h:e.formed=true) (hk:e.kind=5):1<=e.n/\e.n<=16:=by
 exact Ucz
theorem Jyc (e:Ex):e.formed=true->∀(l:List Va) (A:Option Addr) (cap:Nat),Jcr l A cap e:=by
 induction e using Ex.ind with
 | h e ih0=>
 intro hf l A cap Ae ce w he hl;have ih:∀x∈e.sub,Jcr l A cap x:=fun x hx=>ih0 x hx (Ex.formed_sub hf hx) l A cap;have ai:=Ex.formed_kind hf
 have fD:e.sub.length<=3:=by
  exact Uc0
 by_cases fK:(Ex.typL l e.sub).2=0
 case neg=>exact Jy0 l A cap e ih Ae ce w he hl fD fK
 have aO:=Ji9 hf;have aU:(Ex.typL l e.sub).1.length=e.sub.length:=Jj4 l e.sub fK;have eG:=Jl8 l e.sub fK;have ci:Ex.typL l e.sub=((Ex.typL l e.sub).1,0):=by rw [<-fK]
 have rD:e.typ l=Y2 l e.kind e.n e.name (Ex.typL l e.sub).1:=by rw [Ex.typ_eq,if_pos fK]
 have cD:=ai.1;have h4:=Jni hf;have h5:=Jsb hf;generalize (Ex.typL l e.sub).1=ts at aU eG ci rD
 have hend:∀named:Int,(e.name.toList.isEmpty=true\/(K7 l e.name).2=true)->(K7 l e.name).1=named->e.typ l=Zk (kR e.kind e.n named ts):=by
  intro named hn aL;rw [rD,Y2,if_neg (by rcases hn with hn|hn <;> simp [hn]),aL];have mI:1<=e.kind/\e.kind<=10:=by rcases Jbc hf with hk|hk|hk|hk|hk|hk|hk|hk|hk|hk <;> omega
  refine Jzc _ _ _ _ eG mI ?_ ?_ ?_ ?_ ?_ ?_
  ·intro hk;rw [hk] at cD;exact⟨h4 hk,by simp [Jw] at cD;omega⟩
  ·intro hk;rw [hk] at cD;exact⟨(h5 hk).1,(h5 hk).2,by simp [Jw] at cD;omega⟩
  ·intro hk;rw [hk] at cD;simp [Jw] at cD;omega
  ·intro hk;rw [hk] at cD;simp [Jw] at cD;omega
  ·rintro(hk|hk) <;> rw [hk] at cD <;> simp [Jw] at cD <;> omega
  ·intro hk;rw [hk] at cD;simp [Jw] at cD;omega
 cases aL:e.name.toList.isEmpty
 case false=>
  cases lc:Qi l e.name with
  | none=>
   refine Jwt l A cap e ih Ae ce w he hl fD fK aL lc ?_;rw [rD,Y2,if_pos ⟨aL,by unfold K7;rw [lc]⟩]
  | some j=>
   obtain⟨kk,v,rfl,hx,_⟩:=Zi lc;have cL:Jp l e.name=(kk:Int):=by unfold Jp;rw [lc];rfl
   have wR:K7 l e.name=(v.type,true):=by unfold K7;rw [lc];simp only [Int.toNat_natCast,hx]
   have hv:=hend v.type (.inr (by rw [wR])) (by rw [wR])
   rcases Jbc hf with hk|hk|hk|hk|hk|hk|hk|hk|hk|hk <;> rw [hk] at cD aO hv <;> simp [Jw] at cD aO
   ·simp [aO] at aL
   ·simp [aO] at aL
   ·exact Kaa l A cap e ih Ae ce w he hl (by rw [cD];rfl) hk aL kk v cL hx hv
   ·simp [aO] at aL
   ·simp [aO] at aL
   ·simp [aO] at aL
   ·simp [aO] at aL
   ·obtain⟨t0,rfl⟩:=Jcd (l:=ts) Ua;refine Kad l A cap e ih Ae ce w he hl fD hk aL kk v cL hx t0 ci Ua (eG _ Ul) ?_;exact Ucd
   ·obtain⟨t0,rfl⟩:=Jcd (l:=ts) Ua;refine Kah l A cap e ih Ae ce w he hl fD hk aL kk v cL hx t0 ci Ua (eG _ Ul) ?_;exact Ucd
   ·obtain⟨t0,t1,rfl⟩:=Jcn (l:=ts) Ua
    by_cases h:v.type=2
    ·refine Jzi l A cap e ih Ae ce w he hl fD hk aL kk v cL hx t0 t1 ci Ua (eG _ Ul) (eG _ Ul) h ?_;rw [hv,<-Jia (eG _ Ul)];simp [kR,h]
    ·refine Jyq l A cap e ih Ae ce w he hl fD hk aL kk v cL hx t0 t1 ci Ua (eG _ Ul) (eG _ Ul) h ?_;rw [hv];simp [kR,h,Zk]
 case true=>
  have hv:=hend _ (.inl aL) rfl
  rcases Jbc hf with hk|hk|hk|hk|hk|hk|hk|hk|hk|hk <;> rw [hk] at cD aO hv <;> simp [Jw] at cD aO
  ·exact Jvo l A cap e ih Ae ce w he hl (by rw [cD];rfl) (.inl hk) aL (by rw [hv,hk];rfl)
  ·exact Jvo l A cap e ih Ae ce w he hl (by rw [cD];rfl) (.inr hk) aL (by rw [hv,hk];rfl)
  ·exact Udd
  ·obtain⟨t0,rfl⟩:=Jcd (l:=ts) Ua;have fQ:=eG t0 Ul;have hn:=h4 hk;refine Jzy l A cap e ih Ae ce w he hl fD hk aL t0 ci Ua fQ hn ?_;rw [hv]
   rcases fQ with rfl|rfl <;> rcases hn with hn|hn <;> simp [kR,Zk,hn]
  ·obtain⟨t0,t1,rfl⟩:=Jcn (l:=ts) Ua;refine Kaf l A cap e ih Ae ce w he hl fD hk aL t0 t1 ci Ua (eG _ Ul) (eG _ Ul) (h5 hk).1 (h5 hk).2 ?_;rw [hv];simp [kR]
  ·obtain⟨t0,t1,t2,rfl⟩:=Jn6 (l:=ts) Ua;have fQ:=eG t0 Ul;have gJ:=eG t1 Ul;have nQ:=eG t2 Ul
   rcases fQ with rfl|rfl
   ·refine Jzd l A cap e ih Ae ce w he hl fD hk aL t1 t2 ci Ua gJ nQ ?_;rw [hv];simp [kR,Zk]
   ·refine Jz3 l A cap e ih Ae ce w he hl fD hk aL t1 t2 ci Ua gJ nQ ?_;rw [hv,<-Jia gJ];simp [kR]
  ·obtain⟨t0,t1,rfl⟩:=Jcn (l:=ts) Ua;refine Jzw l A cap e ih Ae ce w he hl fD hk aL t0 t1 ci Ua (eG _ Ul) (eG _ Ul) ?_;rw [hv,<-Jia (eG _ Ul)];simp [kR]
  ·exact Udd
  ·exact Udd
  ·exact Udd
theorem Joz {e:Ex} (hr:e.right=0):e.formed=true:=(Ex.right_zero.1 hr).2.2
theorem Jm9 (e:Ex) (aw:e.OK) (Ae:Option Addr) (ce:Nat) (l:List Va) (A:Option Addr) (cap:Nat) (w:World) (he:Jt w e Ae ce) (hl:Ju w l A cap) :
  Calls Tryz.prog 137 #[exV e Ae ce,.slice A l.length cap] w fun r w'=>r = .returned (.tuple #[.int .i64 (ofF e l).1,.int .i64 (ofF e l).2])/\Below w.heap.size w w':=by
 have aB:=fun W h=>Jdb e Ae ce W (he.later h) aw;clear aw
 by_cases hr:e.right=0
 ·have ix:=fun W h1 h2=>Jyc e (Joz hr) l A cap Ae ce W h1 h2;have hv:ofF e l=e.typ l:=by unfold ofF;rw [if_neg Ua]
  have h1:(e.right != 0)=false:=Dq;clear hr;have HV:=Lib.hid hv;clear hv;unfold exV at *
  go_enter Tryz.func137,Tryz.ntmps137
  go_wp2_with (first|(go_at_call 119;refine(aB _ Jb).mono ?_;rintro r w1 ⟨rfl,ac⟩;have ⟨ak,af⟩:=aft ac;(try simp at af))|(go_at_call 160;refine(ix _ (he.later Jb) (hl.later Jb)).mono ?_;rintro r wc ⟨rfl,bU⟩))
  go_ret2
  exact⟨Fj,Jb⟩
 ·have hv:ofF e l=(0,e.right):=by unfold ofF;rw [if_pos hr]
  have h1:(e.right != 0)=true:=Dq;clear hr;have HV:=Lib.hid hv;clear hv;unfold exV at *
  go_enter Tryz.func137,Tryz.ntmps137
  go_wp2_with (first|(go_at_call 119;refine(aB _ Jb).mono ?_;rintro r w1 ⟨rfl,ac⟩;have ⟨ak,af⟩:=aft ac;(try simp at af)))
  go_ret2
  exact⟨Fj,Jb⟩
theorem Jjt (x:Qe) (l:List Qe) (s:ByteArray):Y3 (x :: l) s=(x.name.toList == s.toList || Y3 l s):=rfl
theorem Jny {e:Ex} (h:e.literal=true):e.right=0:=by
 unfold Ex.literal at h
 split at h
 ·assumption
 ·exact Lt
theorem Jm3 {q:Qe} (h:eqB q=true):q.e.right=0/\(q.delay=1->q.first.right=0):=by
 unfold eqB at h;simp only [Bool.and_eq_true] at h;refine⟨by simpa using h.1.2,fun hd=>?_⟩;have h2:=h.2;rw [if_pos hd] at h2;exact Jny h2
theorem Jht {e:Ex} {l:List Va} (h:e.right=0):ofF e l=e.typ l:=by unfold ofF;rw [if_neg Ua]
theorem Jvl (p:Pr) (a:PrA) (i:Nat) (q:Qe) (w:World) (hp:Kr w p a) (vM:p.eqs[i]?=some q) (hb:eqB q=true) (ln:q.first.OK) (jm:q.e.OK)
  (n1:p.ins.length<=1000000) (n2:p.outs.length<=1000000) (n3:p.locals.length<=1000000) (n4:p.eqs.length<=1000000) :
  Calls Tryz.prog 118 #[prV p a,.int .i64 i] w fun r w'=>r = .returned (.int .i64 (Je6 (Je p) p.ins.length (p.eqs.take i) q))/\Below w.heap.size w w':=by
 obtain⟨fa,fF⟩:=Jm3 hb;have aJ:=fun W h=>Z3 p a W (hp.later h) n1 n2 n3;have ap:=fun A cap W h=>Xa (Je p) A cap q.name W h;have kC:i<p.eqs.length:=(List.getElem?_eq_some_iff.1 vM).1;have bT:=hp.eqs;have hv:Je6 (Je p) p.ins.length (p.eqs.take i) q=Je6 (Je p) p.ins.length (p.eqs.take i) q:=rfl;rw (occs:= .pos [2]) [Je6] at hv;obtain⟨A1,c1,A2,c2,A3,c3,A4,c4⟩:=a;unfold prV at *;dsimp only at *;obtain⟨b,off,E1,k1,E2,k2,rfl,aH,⟨g0,g1,g2,g3,g4,g5,g6,g7,g8,g9,s1,s2⟩⟩:=bT.get vM;have cG:=bT.len;unfold maxLen at cG;obtain⟨fT,fU⟩:=cG;have hli:=hp.ins.len;unfold maxLen at hli;dsimp only at hli;obtain⟨hli1,hli2⟩:=hli;have gA:=fun A cap W h1 h2=>Jm9 q.e jm E2 k2 (Je p) A cap W (s2.later h1) h2;have ey:=fun A cap W h1 h2=>Jm9 q.first ln E1 k1 (Je p) A cap W (s1.later h1) h2;rw [Jht fa] at gA;clear hb hp ln jm fa vM;have jU:b<w.heap.size+1:=Ua;generalize hL:Je p=L at *;have HL:=Lib.hid hL;clear hL;unfold exV at *
 have main:∀j:Int,Jp L q.name=j->j<p.ins.length->Calls Tryz.prog 118 #[.agg #[.string p.name,.slice A1 p.ins.length c1,.slice A2 p.outs.length c2,.slice A3 p.locals.length c3,.slice (some ⟨b,off,none⟩) p.eqs.length c4],.int .i64 i] w fun r w'=>r = .returned (.int .i64 (Je6 L p.ins.length (p.eqs.take i) q))/\Below w.heap.size w w':=by
  intro j hj jO;rw [hj] at ap hv;rw [if_pos jO] at hv;clear hj ey gA bT fF;have HV:=Lib.hid hv;clear hv
  go_enter Tryz.func118,Tryz.ntmps118
  go_wp2_with (first|(go_at_call 26;refine(aJ _ Jb).mono ?_;rintro r wb ⟨⟨A,cap,rfl,ae⟩,bG⟩;have el:=Jg bG;have dH:=bG.size;(try simp at dH);have cA:w.heap.size<wb.heap.size:=Ua;have oa:b<wb.heap.size:=Ua;have cR:=Ju.of_own ae)|(go_at_call 49;refine(ap _ _ _ (cR.later Jb)).mono ?_;rintro r wc ⟨rfl,bU⟩;have cB:=Jg bU;have iG:=bU.size;(try simp at iG);have kh:w.heap.size<wc.heap.size:=Ua;have mo:wb.heap.size<wc.heap.size:=Ua;have hyc2:b<wc.heap.size:=Ua))
  exact Udf
 cases hf:Qi L q.name with
 | none=>exact main (-1) (by unfold Jp;rw [hf];rfl) Ua
 | some j=>
  obtain⟨kk,v,rfl,hx,_⟩:=Zi hf;have cL:Jp L q.name=(kk:Int):=by unfold Jp;rw [hf];rfl
  by_cases c1':(kk:Int)<p.ins.length
  ·exact main kk cL c1'
  clear main;have fR:kk<L.length:=(List.getElem?_eq_some_iff.1 hx).1;have rD:Zz L kk=v.type:=by unfold Zz;rw [Int.toNat_natCast,hx]
  rw [cL,rD,if_neg c1'] at hv;rw [cL] at ap;clear hf cL rD;have HT:=Lib.hid hv;clear hv;have c1n:decide (kk<p.ins.length)=false:=Uj
  go_enter Tryz.func118,Tryz.ntmps118
  go_wp2_with (first|(go_at_call 26;refine(aJ _ Jb).mono ?_;rintro r wb ⟨⟨A,cap,rfl,ae⟩,bG⟩;have el:=Jg bG;have dH:=bG.size;(try simp at dH);have cA:w.heap.size<wb.heap.size:=Ua;have oa:b<wb.heap.size:=Ua;have cR:=Ju.of_own ae)|(go_at_call 49;refine(ap _ _ _ (cR.later Jb)).mono ?_;rintro r wc ⟨rfl,bU⟩;have cB:=Jg bU;have iG:=bU.size;(try simp at iG);have kh:w.heap.size<wc.heap.size:=Ua;have mo:wb.heap.size<wc.heap.size:=Ua;have hyc2:b<wc.heap.size:=Ua))
  refine Jo fun W0 ag=>?_;have ax:Below w.heap.size w W0:=Uo;have bD:w.heap.size<W0.heap.size:=Lk;have hzb0:wb.heap.size<W0.heap.size:=Lk;have bE:Ju W0 L A cap:=Do;have p4:W0.cell? ⟨w.heap.size,4,none⟩=some (.slice (some ⟨b,off,none⟩) p.eqs.length c4):=Uc;have t0:W0.cell? ⟨wb.heap.size,0,none⟩=some (.string q.name):=Uc;have t1:W0.cell? ⟨wb.heap.size,1,none⟩=some (.int .i64 q.delay):=Uc;have t2:W0.cell? ⟨wb.heap.size,2,none⟩=some (.int .i64 q.first.kind):=Uc;have t3:W0.cell? ⟨wb.heap.size,3,none⟩=some (.int .i32 q.first.n):=Uc;have t4:W0.cell? ⟨wb.heap.size,4,none⟩=some (.string q.first.name):=Uc;have t5:W0.cell? ⟨wb.heap.size,5,none⟩=some (.slice E1 q.first.sub.length k1):=Uc;have t6:W0.cell? ⟨wb.heap.size,6,none⟩=some (.int .i64 q.e.kind):=Uc;have t7:W0.cell? ⟨wb.heap.size,7,none⟩=some (.int .i32 q.e.n):=Uc;have t8:W0.cell? ⟨wb.heap.size,8,none⟩=some (.string q.e.name):=Uc;have t9:W0.cell? ⟨wb.heap.size,9,none⟩=some (.slice E2 q.e.sub.length k2):=Uc;have oc:=bT.later ax;obtain⟨bv,ov,rfl,dB,⟨d0,d1,d2,d3⟩⟩:=bE.get hx;have le:(kk:Int)<(L.length:Int):=Ua;have tkk:¬((kk:Int)<0):=Ua;have cY:=bE.len;unfold maxLen at cY;obtain⟨fH,fI⟩:=cY;clear ag ae cR el cB ap aJ hx d0 d2 d3 g0 g1 g2 g3 g4 g5 g6 g7 g8 g9 bT;have hS:=Lib.hid (show(q.delay=1->q.first.right=0) from fF);clear fF
  go_loopw [4,8] (fun o u wr=>∃(j:Nat),j<=i/\u = .int .i64 j/\o = .int .i64 0/\Y3 ((p.eqs.take i).drop j) q.name=Y3 (p.eqs.take i) q.name/\Below W0.heap.size W0 wr) (fun _ u _=>i-(intOf u).toNat)
  case atStart=>exact⟨0,Nat.zero_le _,rfl,rfl,rfl,Below.refl _ _⟩
  case round=>
   obtain⟨j,hj,rfl,rfl,aa,ab⟩:=hrel;have hc:=Jg ab;have bu:=ab.size;have eV:w.heap.size<wr.heap.size:=Ua;have fF:wb.heap.size<wr.heap.size:=Ua;have fa:bv<wr.heap.size:=Ua
   by_cases am:j<i
   ·have mX:j<p.eqs.length:=Ua;have hjt:j<(p.eqs.take i).length:=by rw [List.length_take];omega
    have hd:(p.eqs.take i).drop j=p.eqs[j] :: (p.eqs.take i).drop (j+1):=by rw [List.drop_eq_getElem_cons hjt,List.getElem_take]
    have hx:p.eqs[j]?=some p.eqs[j]:=List.getElem?_eq_getElem mX;generalize p.eqs[j]=x at hx hd;obtain⟨b',off',X1,y1,X2,y2,hA,gz,ah⟩:=(oc.later ab).get hx;have lL:b=b'/\off=off':=by simpa using hA
    obtain⟨rfl,rfl⟩:=lL;have e0:=ah.g0;clear ah hA hx hjt;rw [hd,Jjt] at aa;clear hd
    cases dj:(x.name.toList == q.name.toList)
    ·rw [dj,Bool.false_or] at aa;have HR:=Lib.hid aa;clear aa
     go_wp2_with fail
     go_quiet (fail)
     go_wp2_with fail
     go_roundw
     case rel=>exact⟨j+1,Ua,Up,rfl,HR.out,Jb⟩
     case measure=>simp [intOf];omega
    ·rw [dj,Bool.true_or] at aa;have hv:=HT.out;rw [<-aa,if_pos rfl] at hv;clear aa;have HV:=Lib.hid hv;clear hv
     go_wp2_with fail
     go_quiet (fail)
     go_wp2_with fail
     exact Udf
   ·obtain rfl:j=i:=Ua;rw [List.drop_eq_nil_of_le (by rw [List.length_take];omega)] at aa;have cP:Y3 (p.eqs.take j) q.name=false:=aa.symm;have hv:=HT.out;rw [cP,if_neg Ul] at hv;have dE:Ju wr L (some ⟨bv,ov,none⟩) cap:=bE.later ab;have jL:=fun W h1 h2=>gA (some ⟨bv,ov,none⟩) cap W h1 h2;have fy:=fun W h1 h2=>ey (some ⟨bv,ov,none⟩) cap W h1 h2;have aC:Below w.heap.size w wr:=Jd ax ab;clear aa cP ey gA oc
    cases c3:((q.e.typ L).2 != 0)
    case true=>
     rw [if_pos (by simpa using c3)] at hv;clear fy;have HV:=Lib.hid hv;clear hv
     go_wp2_with (first|(go_at_call_of 137 E2;refine(jL _ Jb (dE.later Jb)).mono ?_;rintro r wd ⟨rfl,ct⟩;have jK:=Jg ct;have ir:=ct.size;have qz:w.heap.size<wd.heap.size:=Ua;have oe:wb.heap.size<wd.heap.size:=Ua;have qA:bv<wd.heap.size:=Ua)|(go_at_call_of 137 E1;refine(fy _ Jb (dE.later Jb)).mono ?_;rintro r we ⟨rfl,ef⟩;have et:=Jg ef;have uX:=ef.size;have qB:w.heap.size<we.heap.size:=Ua;have qC:wb.heap.size<we.heap.size:=Ua;have qD:bv<we.heap.size:=Ua))
     exact Udf
    rw [if_neg (by simpa using c3)] at hv
    cases c4':((q.e.typ L).1 != v.type)
    case true=>
     rw [if_pos (by simpa using c4')] at hv
     by_cases qd:q.delay=1
     ·have q1:(q.delay == 1)=true:=by rw [qd];rfl
      rw [Jht (hS.out qd)] at fy;exact Uae
     ·have q1:(q.delay == 1)=false:=by simpa using qd
      exact Uac
    rw [if_neg (by simpa using c4')] at hv
    by_cases qd:q.delay=1
    ·have q1:(q.delay == 1)=true:=by rw [qd];rfl
     rw [Jht (hS.out qd)] at fy
     cases c5:((q.first.typ L).1 != v.type)
     case true=>
      rw [if_pos ⟨qd,Sf⟩] at hv;exact Uae
     rw [if_neg (by rintro⟨_,h⟩;exact h Sf)] at hv;exact Uae
    ·have q1:(q.delay == 1)=false:=by simpa using qd
     rw [if_neg (by rintro⟨h,_⟩;exact qd h)] at hv;exact Uac
theorem Jd0 (a b c:ByteArray):a ++ b ++ c=a ++ (b ++ c):=by
 ext1;simp
theorem Jml (v:Va) (hs:Jb8 v) (w:World):Calls Tryz.prog 135 #[vaV v] w fun r w'=>r = .returned (.string (Jb9 v))/\Below w.heap.size w w':=by
 obtain⟨h1,h2⟩:=hs;unfold vaV
 by_cases c1:v.ck=1 <;> by_cases c2:v.ck=2 <;> by_cases c3:v.type=2 <;> first|omega |
 ·have hv:Jb9 v=Jb9 v:=rfl;rw (occs:= .pos [2]) [Jb9] at hv
  first|rw [if_pos c1] at hv|rw [if_neg c1,if_pos c2] at hv|rw [if_neg c1,if_neg c2] at hv
  first|rw [if_pos c3] at hv|rw [if_neg c3] at hv
  first|rw [<-Jd0] at hv|skip
  have HV:=Lib.hid hv;clear hv
  go_enter Tryz.func135,Tryz.ntmps135
  go_wp2_with fail
  exact Uef
theorem Jlw (a:ByteArray):∀(l:List Va) (k:Nat) (s:ByteArray),Yr k (a ++ s) l=a ++ Yr k s l
 | [],_,_=>rfl
 | v :: l,k,s=>by
  rw [Yr,Yr,<-Jlw a l]
  congr 1
  by_cases h:0<k
  ·rw [if_pos h,if_pos h,Jd0,Jd0,Jd0]
  ·rw [if_neg h,if_neg h,Jd0]
def Y0 (l:List Va):ByteArray:=Yr 0 ⟨#[]⟩ l
theorem Jij (l:List Va):Y9 l=⟨#[40]⟩ ++ Y0 l ++ ⟨#[41]⟩:=by
 have h:(⟨#[40]⟩:ByteArray)=⟨#[40]⟩ ++ ⟨#[]⟩:=by ext1;simp
 unfold Y9 Y0;rw [<-Jlw,<-h]
theorem Jm4 (l:List Va) (A:Option Addr) (cap:Nat) (hs:∀v∈l,Jb8 v) (hn:l.length<=1000000) (w:World) (hl:Ju w l A cap) :
  Calls Tryz.prog 134 #[.slice A l.length cap] w fun r w'=>r = .returned (.string (Y0 l))/\Below w.heap.size w w':=by
 have aD:=hl.len;unfold maxLen at aD;obtain⟨fD,cG⟩:=aD;have cE:=Jcl l hs 0 ⟨#[]⟩
 have hz:(Y0 l).size<=100000000:=by
  unfold Y0;simp only [Ko,List.size_toArray,List.length_nil] at cE;exact Ua
 clear cE;have hG:Yr 0 ⟨#[]⟩ l=Y0 l:=rfl;generalize Y0 l=G at *;have HG:=Lib.hid hG;clear hG
 go_enter Tryz.func134,Tryz.ntmps134
 go_wp2_with fail
 go_loopw [3,4] (fun o i wr=>∃(k:Nat) (s:ByteArray),k<=l.length/\i = .int .i64 k/\o = .string s/\s.size<=62 * k/\Yr k s (l.drop k)=G/\Below w.heap.size w wr) (fun _ i _=>l.length-(intOf i).toNat)
 case atStart=>exact⟨0,⟨#[]⟩,Nat.zero_le _,rfl,rfl,Ux,HG.out,Below.refl _ _⟩
 case round=>
  obtain⟨k,s,hk,rfl,rfl,rV,aa,ab⟩:=hrel
  by_cases am:k<l.length
  ·have aj:l[k]∈l:=List.getElem_mem am;have hx:l[k]?=some l[k]:=List.getElem?_eq_getElem am;have hd:l.drop k=l[k] :: l.drop (k+1):=List.drop_eq_getElem_cons am;generalize l[k]=x at hx hd aj;obtain⟨b,off,rfl,aH,⟨d0,d1,d2,d3⟩⟩:=(hl.later ab).get hx;rw [hd,Yr] at aa;have mn:=hs x aj;have hds:=Jc9 mn;have eA:=fun W=>Jml x mn W;unfold vaV at eA;clear hd hx
   rcases Nat.eq_zero_or_pos k with h0|h0
   ·subst h0;rw [if_neg Ua] at aa;have HR:=Lib.hid aa;clear aa;simp only [Nat.zero_mul,Nat.add_zero] at d0 d1 d2 d3
    go_wp2_with (first|(go_at_call 135;refine(eA _).mono ?_;rintro r w1 ⟨rfl,ac⟩;have ⟨ak,af⟩:=aft ac;(try simp at af)))
    exact Ucu
   ·rw [if_pos h0] at aa;have HR:=Lib.hid aa;clear aa;have h0':(0:Int)<k:=Ua;exact Ubc
  ·obtain rfl:k=l.length:=Ua;rw [List.drop_length,Yr] at aa;have HR:=Lib.hid aa;clear aa
   go_wp2_with fail
   go_ret;exact⟨Kk HR.out,Jb⟩
theorem Jl5 (e:Ex) (A:Option Addr) (cap:Nat) (w:World) (he:Jt w e A cap) (aw:e.OK) :
  Calls Tryz.prog 156 #[exV e A cap] w fun r w'=>r = .returned (.bool e.literal)/\Below w.heap.size w w':=by
 have hl:=he.len;unfold maxLen at hl;obtain⟨bI,aD⟩:=hl;have hv:e.literal=if e.right=0 then(if e.kind=4/\e.n=1 then(match e.sub with|x :: _=>x.kind == 1 | []=>false) else(e.kind == 1 || e.kind == 2)) else false:=rfl;have aB:=fun W h=>Jdb e A cap W (he.later h) aw;clear aw;unfold exV at aB ⊢
 cases h1:(e.right != 0)
 case true=>
  rw [if_neg (by intro h;rw [h] at h1;simp at h1)] at hv;exact Ua9
 have eV:=Jei h1;rw [if_pos eV] at hv
 cases h2:(e.kind == 4)
 case false=>
  rw [if_neg (by rintro⟨h,_⟩;rw [h] at h2;simp at h2)] at hv
  cases h3:(e.kind == 1)
  case true=>
   rw [h3,Bool.true_or] at hv;clear eV;exact Ua9
  rw [h3,Bool.false_or] at hv
  cases h5:(e.kind == 2)
  ·exact Ua5
  ·exact Ua5
 have iA:=Jbf h2;have h31:(e.kind == 1)=false:=by rw [iA];rfl
 have h32:(e.kind == 2)=false:=by rw [iA];rfl
 cases h4:(e.n == 1)
 case false=>
  rw [if_neg (by rintro⟨_,h⟩;rw [h] at h4;simp at h4),h31,h32] at hv;clear eV iA;replace hv:e.literal=false:=by rw [hv];rfl
  exact Ua9
 rw [if_pos ⟨iA,Jbf h4⟩] at hv;have hf:=(Ex.right_zero.1 eV).2.2;rw [Ex.formed_eq,Jl,iA] at hf
 have ai:e.sub.length=1:=by
  simp only [Jw,Bool.and_eq_true] at hf;have:=Jbf hf.1.1.1.1.1.2;simp at this;omega
 clear hf;have hx:e.sub[0]?=some e.sub[0]:=List.getElem?_eq_getElem Ua;generalize e.sub[0]=x at hx
 have aT:e.sub = [x]:=by
  generalize e.sub=l at ai hx
  match l,ai,hx with
  | [y],_,h=>simp at h;rw [h]
 rw [aT] at hv;obtain⟨b,off,A',cap',rfl,c0,c1,c2,c3,hs⟩:=he.get hx;have ax:b<w.heap.size:=block_lt_of_cell c0;have hb0':b<w.heap.size+1:=Ua;have hlen':0<e.sub.length:=Ua;simp only [Nat.zero_mul,Nat.add_zero] at c0;clear eV iA hx ai c1 c2 c3;have HS:=Lib.hid aT;clear aT;have HV:=Lib.hid hv;clear hv
 go_enter Tryz.func156,Tryz.ntmps156
 go_wp2_with (first|(go_at_call 119;refine(aB _ Jb).mono ?_;rintro r w1 ⟨rfl,ac⟩;have ⟨ak,af⟩:=aft ac;(try simp at af)))
 go_ret;exact⟨Jk HV.out.symm,Jb⟩
end Go.Proofs.YtknfcamdfdfoeaaGreatDoor
