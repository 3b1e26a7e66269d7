/- Lemmas. -/
import Derived.Test.YtknfcamdfdfoeaaGreatDoorMac
import Derived.Test.YtknfcamdfdfoeaaGreatDoorZ29
set_option linter.unusedVariables false
set_option linter.unusedSimpArgs false
set_option maxRecDepth 100000
set_option maxHeartbeats 64000000
namespace Go.Proofs.YtknfcamdfdfoeaaGreatDoor
open Go.RowKit Go.Sort
theorem Kbf (a:Int) (w:World) (ha:I32 a):Calls Tryz.prog 104 #[.int .i32 a] w fun r w'=>r = .returned (.int .u32 (Xh a:Nat))/\w'=w:=by
 unfold I32 at ha
 have fC:IntKind.u32.wrap a=((Xh a:Nat):Int):=by
  unfold Xh;simp [IntKind.wrap,IntKind.bits,IntKind.signed];omega
 by_cases h0:a<0
 ·have aI:IntKind.u32.wrap (a+4294967296)=((Xh a:Nat):Int):=by
   unfold Xh;simp [IntKind.wrap,IntKind.bits,IntKind.signed];omega
  generalize ((Xh a:Nat):Int)=q at *
  go_enter Tryz.func104,Tryz.ntmps104
  go_wp2_with fail
  go_ret;exact⟨by simp [aI],rfl⟩
 ·generalize ((Xh a:Nat):Int)=q at *
  go_enter Tryz.func104,Tryz.ntmps104
  go_wp2_with fail
  go_ret;exact⟨by simp [fC],rfl⟩
theorem Kbc (n d:Nat) (w:World) (hn:n<18446744073709551616) (hd:d<=8) :
  Calls Tryz.prog 141 #[.int .u64 n,.int .i64 d] w fun r w'=>(∃v,r = .returned (.tuple #[v,.int .u64 ((n / 256 ^ d:Nat):Int)])/\w'.ownsRow w.heap.size 5 1 v d (byU (leB d n)))/\Below w.heap.size w w':=by
 go_enter Tryz.func141,Tryz.ntmps141
 go_wp2_with fail
 go_loopw [0,6,7] (fun m v i wr=>∃(k q:Nat),k<=d/\i = .int .i64 k/\m = .int .u64 (q:Nat)/\Hid (q=n / 256 ^ k)/\q<18446744073709551616/\wr.ownsRow w.heap.size 5 1 v k (byU (leB k n))/\Below w.heap.size w wr) (fun _ _ i _=>d-(intOf i).toNat)
 case atStart=>exact⟨0,n,Np,rfl,rfl,Nf Ul,hn,Nw,Nt⟩
 case round=>
  obtain⟨k,q,hk,rfl,rfl,hq,hq64,ae,ab⟩:=hrel;have hz:=ab.size;obtain⟨A2,c2,rfl,ak,dm⟩:=Jv ae;unfold maxLen at dm
  by_cases am:k<d
  ·have nn:byU (leB (k+1) n)=byU (leB k n) ++ [.int .u8 ((q:Int) % 256)]:=by
    rw [Jgy,Jeu,<-hq.out];rfl
   have je:q / 256=n / 256 ^ (k+1):=by rw [hq.out,Nat.div_div_eq_div_mul,Nat.pow_succ]
   have vC:=Nf nn;have HQ2:=Nf je;clear nn je hq
   go_wp2_with (at_builtin;refine Kap rfl (.tmp 13) (.tmp 17) 98 rfl w.heap.size 5 _ 1 1 Tryz.underlying98 Jgl rfl Ua (.slice A2 k c2) k (byU (leB k n)) _ 1 [.int .u8 ((q:Int) % 256)] rfl Udk rfl rfl (fun j u hj=>U9) Uv Ua Ua U7 ?_;intro v2 w2 ao aq;have br:=aq.size;(try simp at br))
   go_roundw
   case rel=>exact⟨k+1,q / 256,Ua,Up,Bb,HQ2,Ua,Sm,(Jc ab _).trans aq⟩
   case measure=>simp [intOf];omega
  ·obtain rfl:k=d:=Ua;obtain rfl:=hq.out;clear hq
   go_wp2_with fail
   go_ret2
   exact⟨⟨_,rfl,ae⟩,ab⟩
theorem Ka3 (l x:List Int) (A:Option Addr) (cap:Nat) (A2:Option Addr) (cap2:Nat) (w:World) (hb:Qc w (byU l) l.length A cap) (hx:Qc w (byU x) x.length A2 cap2) (hl:l.length<=1000000) (hn:x.length<=1000000) :
  Calls Tryz.prog 142 #[.slice A l.length cap,.slice A2 x.length cap2] w fun r w'=>(∃v,r = .returned v/\w'.ownsRow w.heap.size 5 1 v (l ++ x).length (byU (l ++ x)))/\Below w.heap.size w w':=by
 have HB:=Nf hb;have HX:=Nf hx;clear hb hx
 go_enter Tryz.func142,Tryz.ntmps142
 go_wp2_with (first
  | (have hg:=aq;at_builtin;go_loud (refine K6 rfl (.tmp 9) (.tmp 10) 98 rfl w.heap.size 5 _ 1 1 Tryz.underlying98 Jgl rfl Ua v2 (0+l.length) ([] ++ byU l) A2 x.length cap2 (byU x) rfl ao rfl (HX.out.later aq).2.2 (Jgm _) Ua Ua (by have:=aq.size;omega) ?_;intro v3 w3 aE aM))
  | (at_builtin;go_loud (refine K6 rfl (.tmp 6) (.tmp 7) 98 rfl w.heap.size 5 _ 1 1 Tryz.underlying98 Jgl rfl Ua (.slice none 0 0) 0 [] A l.length cap (byU l) rfl (Nw) rfl HB.out.2.2 (Jgm _) Ua Ua Ua ?_;intro v2 w2 ao aq)))
 go_ret;exact⟨⟨v3,rfl,by rw [Jeu,Nk];simpa using aE⟩,aq.trans aM⟩
theorem Kaz (l:List Int) (A:Option Addr) (cap d n:Nat) (w:World) (hb:Qc w (byU l) l.length A cap) (hl:l.length<=100000) (hd:1<=d) (hd8:d<=8) (hn:n<256 ^ d) :
  Calls Tryz.prog 125 #[.slice A l.length cap,.int .i64 d,.int .u64 n] w (Y8 w (l ++ leB d n)):=by
 unfold Y8;have hn64:n<18446744073709551616:=Nr hn (Nat.le_trans (Nat.pow_le_pow_right Ua hd8) Ux);have wN:=fun W=>Kbc n d W hn64 hd8;rw [Nat.div_eq_of_lt hn] at wN;have hj:=fun(A2:Option Addr) (cap2:Nat) W (h1:Below w.heap.size w W) h2=>Ka3 l (leB d n) A cap A2 cap2 W (hb.later h1) h2 Ua (by rw [Y4];omega);rw [Y4] at hj;generalize l ++ leB d n=l2 at *;generalize leB d n=x at *;have t1:decide ((d:Int)<1)=false:=Uj;have t2:decide (8<(d:Int))=false:=Uj;have HJ:=Nf hj;clear hb hn hj
 go_enter Tryz.func125,Tryz.ntmps125
 go_wp2_with (first
  | (go_at_call 141;refine(wN _).mono ?_;rintro r w1 ⟨⟨v,rfl,ae⟩,ac⟩;obtain⟨A2,c2,rfl,aY⟩:=Qc.of_own ae)
  | (go_at_call 142;refine(HJ.out A2 c2 _ Jb aY).mono ?_;rintro r w2 ⟨⟨v2,rfl,ao⟩,aq⟩))
 go_ret2
 exact⟨⟨v2,rfl,K8 ao ac.size⟩,Jd ac aq⟩
theorem Kb7 (l x:List Int) (A:Option Addr) (cap:Nat) (A2:Option Addr) (cap2:Nat) (w:World) (hb:Qc w (byU l) l.length A cap) (hx:Qc w (byU x) x.length A2 cap2) (hl:l.length<=100000) (hn:x.length<=65535) :
  Calls Tryz.prog 127 #[.slice A l.length cap,.slice A2 x.length cap2] w (Y8 w (l ++ Jcs x)):=by
 unfold Y8;have wN:=fun W=>Kbc x.length 2 W Ua Ua;have hj:=fun(A3:Option Addr) (cap3:Nat) W (h1:Below w.heap.size w W) h2=>Ka3 l (leB 2 x.length) A cap A3 cap3 W (hb.later h1) h2 Ua (by rw [Y4];omega);rw [Y4] at hj;have hj2:=fun(A3:Option Addr) (cap3:Nat) W (h1:Below w.heap.size w W) h2=>Ka3 (l ++ leB 2 x.length) x A3 cap3 A2 cap2 W h2 (hx.later h1) Ty Ua;rw [List.append_assoc l (leB 2 x.length) x,show leB 2 x.length ++ x=Jcs x from rfl] at hj2
 have ky:IntKind.u64.wrap (x.length:Int)=(x.length:Int):=by
  exact Uc8
 have hx1:=hx.1;have qh:=hx.2.1;unfold maxLen at qh;have tn:¬(65535:Int)<(x.length:Int):=Ua;generalize l ++ Jcs x=l3 at *;generalize l ++ leB 2 x.length=l2 at *;generalize leB 2 x.length=y at *;have HJ:=Nf hj;have HJ2:=Nf hj2;clear hb hx hj hj2
 go_enter Tryz.func127,Tryz.ntmps127
 go_wp2_with (first
  | (have hg:=ao;go_at_call 142;refine(HJ2.out A4 c4 _ Jb gP).mono ?_;rintro r w3 ⟨⟨v3,rfl,aE⟩,aM⟩)
  | (go_at_call 141;refine(wN _).mono ?_;rintro r w1 ⟨⟨v,rfl,ae⟩,ac⟩;obtain⟨A3,c3,rfl,aY⟩:=Qc.of_own ae)
  | (go_at_call 142;refine(HJ.out A3 c3 _ Jb aY).mono ?_;rintro r w2 ⟨⟨v2,rfl,ao⟩,aq⟩;obtain⟨A4,c4,rfl,gP⟩:=Qc.of_own ao))
 go_ret2
 exact⟨⟨v3,rfl,K8 aE (by have:=ac.size;have:=aq.size;omega)⟩,Jd (Jd ac aq) aM⟩
theorem Kct (l:List Int) (A:Option Addr) (cap:Nat) (B:Option Addr) (capB:Nat) (w:World) (h1:Qc w (nuI l) l.length A cap) (h2:Qc w (nuI l) l.length B capB) :
  Calls Tryz.prog 40 #[.slice A l.length cap,.slice B l.length capB] w fun r w'=>r = .returned (.bool true)/\Below w.heap.size w w':=by
 have l1:=h1.1;have l2:=h2.1;have m1:=h1.2.1;have m2:=h2.2.1;unfold maxLen at m1 m2
 go_enter Tryz.func40,Tryz.ntmps40
 go_wp2_with fail
 go_loopw [5] (fun i wr=>∃(k:Nat),k<=l.length/\i = .int .i64 k/\Below w.heap.size w wr) (fun i _=>l.length-(intOf i).toNat)
 case atStart=>exact⟨0,Np,rfl,Nt⟩
 case round=>
  obtain⟨k,hk,rfl,ab⟩:=hrel
  by_cases am:k<l.length
  ·have hx:l[k]?=some l[k]:=Ng am;generalize l[k]=x at hx;obtain⟨b,off,rfl,ac,c1⟩:=(h1.later ab).get (Jx3 hx);obtain⟨b2,off2,rfl,aq,c2⟩:=(h2.later ab).get (Jx3 hx);clear hx;have te:(x != x)=false:=Ul;have aH:=ac;have bG:=aq;exact Uf9
  ·obtain rfl:k=l.length:=Ua
   go_wp2_with fail
   go_ret;exact⟨rfl,ab⟩
theorem Kbh (op:Int) (w:World):Calls Tryz.prog 101 #[.int .i64 op] w fun r w'=>r = .returned (.int .i64 (Qp op))/\Below w.heap.size w w':=by
 rcases Jul op with h|rfl|rfl|rfl|rfl|rfl|rfl|rfl|rfl|rfl|rfl|rfl
 ·obtain⟨t1,t2,t3,t4,t5,t6,t7,t8,t9,t10,t11⟩:=h
  have hv:Qp op=0:=by
   simp only [beq_eq_false_iff_ne,ne_eq] at *;unfold Qp;rw [if_neg Ua,if_neg Ua,if_neg Ua]
  have HV:=Nf hv;clear hv
  go_enter Tryz.func101,Tryz.ntmps101
  exact Uc9
 all_goals
  go_enter Tryz.func101,Tryz.ntmps101
  go_wp2_with fail
  go_ret;exact⟨Jm Ux,Jb⟩
theorem Kbk {op N:Int} (h:Qj (op,N)=0):op=1\/op=2\/op=3\/op=4\/op=5\/op=6\/op=7\/op=8\/op=9\/op=10\/op=11:=by
 rcases Jul op with h2|h2
 ·exfalso
  obtain⟨t1,t2,t3,t4,t5,t6,t7,t8,t9,t10,t11⟩:=h2;simp only [beq_eq_false_iff_ne,ne_eq] at *;unfold Qj Qp at h;dsimp only at h;rw [if_pos (by rw [if_neg Ua,if_neg Ua,if_neg Ua])] at h;exact absurd h Ux
 ·exact h2
theorem Kbg (op N:Int) (w:World) (h:Qj (op,N)=0):Calls Tryz.prog 64 #[.agg #[.int .i64 op,.int .i32 N]] w fun r w'=>r = .returned (.int .i64 0)/\Below w.heap.size w w':=by
 have hw:=fun W=>Kbh op W;have xH:Jbu 8=2/\Jbu 9=16/\Jbu 10=65535/\Jbu 11=65535/\Jbu 2=255/\Jbu 3=255/\Jbu 4=255/\Jbu 5=255/\Jbu 6=255/\Jbu 7=255:=⟨rfl,rfl,rfl,rfl,rfl,rfl,rfl,rfl,rfl,rfl⟩
 rcases Kbk h with rfl|rfl|rfl|rfl|rfl|rfl|rfl|rfl|rfl|rfl|rfl
 all_goals
  simp only [Qp] at hw
  (try rw [Joo Ua] at h)
  (try rw [Job Ua] at h)
  (try split at h;exact absurd h Ux)
  (try have d1:decide (N<1)=false:=by simp;omega)
  (try have d2:decide (2<N)=false:=by simp;omega)
  (try have d3:decide (16<N)=false:=by simp;omega)
  (try have d4:decide (N<0)=false:=by simp;omega)
  (try have d5:decide (65535<N)=false:=by simp;omega)
  (try have d6:decide (255<N)=false:=by simp;omega)
  clear h xH
  go_enter Tryz.func64,Tryz.ntmps64
  go_wp2_with (first|(go_at_call 101;refine mo (hw _) fun w1 ac ak af bV=>?_;(try simp at af);(try have bV:=lt0 w w1);(try have gq:=ltA w 1 w1);(try have ow:=ltA w 2 w1);(try have ns:=lt0 wr w1);(try have nt:=ltA wr 1 w1)))
  go_ret;exact⟨rfl,Jb⟩
theorem Kcn (op N:Int) (w:World) (h:Qj (op,N)=0) (hN:I32 N) :
  Calls Tryz.prog 126 #[.agg #[.int .i64 op,.int .i32 N]] w (Y8 w (Jdm (op,N))):=by
 have aB:=fun w=>Kbg op N w h;have jf:=Kbk h
 have ky:IntKind.u8.wrap op=op:=by
  exact Uc8
 have dS:=Jne N
 have nL:IntKind.u64.wrap ((Xh N:Nat):Int)=((Xh N:Nat):Int):=by
  exact Uc8
 have iF:∀(g:Nat) (W:World),Qc W (byU [op]) 1 (some ⟨g,0,none⟩) 1->Calls Tryz.prog 125 #[.slice (some ⟨g,0,none⟩) 1 1,.int .i64 (Qp op),.int .u64 (Xh N:Nat)] W (Y8 W (Jdm (op,N))):=by
  intro g W hc;unfold Jdm
  rcases Ju4 h hN with ⟨h1,_⟩|⟨h1,h2,h3⟩|⟨h1,h2,h3⟩
  ·dsimp only;rw [h1];exact Kaz [op] (some ⟨g,0,none⟩) 1 4 (Xh N) W hc Ul Ua Ua Ua
  ·dsimp only;rw [h1];exact Kaz [op] (some ⟨g,0,none⟩) 1 2 (Xh N) W hc Ul Ua Ua Ua
  ·dsimp only;rw [h1];exact Kaz [op] (some ⟨g,0,none⟩) 1 1 (Xh N) W hc Ul Ua Ua Ua
 have kT:=Nf iF;have cO:=fun W=>Kbh op W;have mh:=fun W=>Kbf N W hN;generalize Jdm (op,N)=bs at *;clear h hN iF jf;unfold Y8
 go_enter Tryz.func126,Tryz.ntmps126
 go_wp2_with (first|(go_at_call 64;refine mo (aB _) fun w1 ac ak af bV=>?_;(try simp at af);(try have bV:=lt0 w w1);(try have gq:=ltA w 1 w1);(try have ow:=ltA w 2 w1);(try have ns:=lt0 wr w1);(try have nt:=ltA wr 1 w1)))
 refine Jo fun W0 ag=>?_;have q0:=Na W0 w.heap.size 0 op Uc;have q1:=Nb W0 w.heap.size 1 (.int .i32 N) Uc;have aC:=Nd w W0 Uo;have hz:=aC.size;have su:=Nu q0;clear ag;have hS:∀w',Below W0.heap.size W0 w'->w'.cell? ⟨w.heap.size,0,none⟩=some (.int .i64 op)/\w'.cell? ⟨w.heap.size,1,none⟩=some (.int .i32 N):=fun w' hb=>⟨Ja hb q0,Ja hb q1⟩;have HS:=Nf hS;have ar:=hS W0.drew (Jh (Nt));have lA:Below W0.heap.size W0 W0.drew:=Jh (Nt);have hds:W0.drew.heap.size=W0.heap.size:=rfl;clear hS q0 q1 su;refine Kd (fun w'=>w'.cell? ⟨w.heap.size,0,none⟩=some (.int .i64 op)/\w'.cell? ⟨w.heap.size,1,none⟩=some (.int .i32 N)) 16 1 Ug Gd ?_;simp only [List.size_toArray,Nl,Nm,Nat.zero_add,Nat.reduceAdd];refine Ji 0 ar ?_;refine Ji 1 ar ?_;refine Ji 2 ar ?_;refine Ji 4 ar ?_;refine Ji 5 ar ?_;refine Ji 7 ar ?_;refine Ji 8 ar ?_;refine Jfe (i:=3) (j:=6) Ug Um Um rfl rfl ?_ ?_
 ·refine Jj fun K hK=>?_;go_simp;refine hK _ _ ⟨HS.out _ (Jh (Jc (Nt) _)),?_⟩;clear hK K
  try simp only [Act.put,sa1,sa2,sa3]
  refine Kb 6 ?_;refine Jj fun K hK=>?_;go_simp;refine(cO _).mono ?_;rintro r wf ⟨rfl,bZ⟩;dsimp only;have cT:=Nd W0 wf (Jd (Jh (Jc (Nt) _)) bZ);refine hK _ _ ⟨HS.out wf cT,?_⟩;clear hK K
  try simp only [Act.put,sa1,sa2,sa3]
  have hcel:Qc wf (byU [op]) 1 (some ⟨W0.heap.size,0,none⟩) 1:=((Jka W0 #[.int .u8 op] 5 rfl).later (Jh (Nt))).later bZ;refine Kb 9 ?_;refine Jj fun K hK=>?_;go_simp;refine(mh _).mono ?_;rintro r wp ⟨rfl,tF⟩;dsimp only;subst tF;refine hK _ _ ⟨HS.out _ cT,?_⟩;clear hK K
  try simp only [Act.put,sa1,sa2,sa3]
  have dr:=HS.out _ cT;refine Ji 10 dr ?_;refine Kb 11 ?_;refine Jj fun K hK=>?_;go_simp;refine(kT.out _ _ hcel).mono ?_;rintro r wz ⟨⟨v,rfl,ae⟩,gt⟩;dsimp only;have cF:=Nd W0 wz (Jd cT gt);refine hK _ _ ⟨HS.out wz cF,?_⟩;clear hK K
  try simp only [Act.put,sa1,sa2,sa3]
  have eI:=cT.size;have dk:=HS.out wz cF;refine Ji 12 dk ?_;refine Ji 13 dk ?_;refine Jfe (i:=14) (j:=15) Ug Um Um rfl rfl ?_ ?_
  ·refine Jj fun K hK=>?_;go_simp;refine hK _ _ ⟨dk,?_⟩;clear hK K
   try simp only [Act.put,sa1,sa2,sa3]
   refine Kb 15 ?_;exact Ugn
  ·refine Jj fun K hK=>?_;go_simp;refine hK _ _ ⟨dk,?_⟩;clear hK K
   try simp only [Act.put,sa1,sa2,sa3]
   refine Kb 14 ?_;exact Ugn
 ·refine Jj fun K hK=>?_;go_simp;refine(cO _).mono ?_;rintro r wf ⟨rfl,bZ⟩;dsimp only;have cT:=Nd W0 wf (Jd lA bZ);refine hK _ _ ⟨HS.out wf cT,?_⟩;clear hK K
  try simp only [Act.put,sa1,sa2,sa3]
  have dr:=HS.out _ cT;have eI:=cT.size;refine Jfe (i:=3) (j:=9) Ug Um Um rfl rfl ?_ ?_
  ·refine Jj fun K hK=>?_;go_simp;refine hK _ _ ⟨HS.out _ (Jc cT _),?_⟩;clear hK K
   try simp only [Act.put,sa1,sa2,sa3]
   refine Kb 9 ?_;refine Jj fun K hK=>?_;go_simp;refine(mh _).mono ?_;rintro r wp ⟨rfl,tF⟩;dsimp only;subst tF;refine hK _ _ ⟨HS.out _ (Jc cT _),?_⟩;clear hK K
   try simp only [Act.put,sa1,sa2,sa3]
   refine Ji 10 (HS.out _ (Jc cT _)) ?_;exact Uam
  ·refine Jj fun K hK=>?_;go_simp;refine(mh _).mono ?_;rintro r wp ⟨rfl,tF⟩;dsimp only;subst tF;refine hK _ _ ⟨HS.out _ cT,?_⟩;clear hK K
   try simp only [Act.put,sa1,sa2,sa3]
   refine Ji 10 dr ?_;refine Kb 3 ?_;refine Jj fun K hK=>?_;go_simp;refine hK _ _ ⟨HS.out _ (Jc cT _),?_⟩;clear hK K
   try simp only [Act.put,sa1,sa2,sa3]
   exact Uam
theorem Kbm {w:World} {l:List (Int×Int)} {A:Option Addr} {cap:Nat} (h:J3 w l A cap) {k:Nat} {x:Int×Int} (hk:l[k]?=some x) :
  ∃b off,A=some ⟨b,off,none⟩/\b<w.heap.size/\w.cell? ⟨b,off+k * 2,none⟩=some (.int .i64 x.1)/\w.cell? ⟨b,off+k * 2+1,none⟩=some (.int .i32 x.2):=by
 have am:=(Nh hk).1;obtain⟨b,off,hA,hc⟩:=h.2.2.2 Ua;obtain⟨h1,h2⟩:=Joi l k x hk;have c1:=hc _ _ h1;have c2:=hc _ _ h2;rw [show off+(k * 2+1)=off+k * 2+1 by omega] at c2;exact⟨b,off,hA,Nu c1,c1,c2⟩
theorem Kcl {c:List (Int×Int)} {k:Nat} {x:Int×Int} (h:c[k]?=some x):Ja7 (c.take (k+1))=Ja7 (c.take k) ++ Jdm x:=by
 rw [List.take_add_one,h];exact Js9 _ _
theorem Ka9 (c:List (Int×Int)) (A:Option Addr) (cap:Nat) (w:World) (hc:J3 w c A cap) (hl:c.length<=600) (hr:∀i∈c,Qj i=0) (hN:∀i∈c,I32 i.2) :
  Calls Tryz.prog 105 #[.slice A c.length cap] w (Y8 w (Ja7 c)):=by
 unfold Y8;have fG:=hc.2.1;have bO:=hc.1;unfold maxLen at fG;have tb:¬(600:Int)<(c.length:Int):=Ua;have HC:=Nf hc;have HN:=Nf hN;have HRR:=Nf hr;clear hc hN hr
 go_enter Tryz.func105,Tryz.ntmps105
 go_wp2_with fail
 go_loopw [4,5] (fun v i wr=>∃k:Nat,k<=c.length/\i = .int .i64 k/\wr.ownsRow w.heap.size 5 1 v (Ja7 (c.take k)).length (byU (Ja7 (c.take k)))/\Below w.heap.size w wr) (fun _ i _=>c.length-(intOf i).toNat)
 case atStart=>exact⟨0,Np,rfl,Nw,Nt⟩
 case round=>
  obtain⟨k,hk,rfl,ae,ab⟩:=hrel;have hz:=ab.size
  by_cases am:k<c.length
  ·have hx:c[k]?=some c[k]:=Ng am;have hI:=HN.out c[k] (Nj am);have hR:=HRR.out c[k] (Nj am);generalize c[k]=x at hx hI hR;obtain⟨op,N⟩:=x;obtain⟨b,off,rfl,aH,y0,y1⟩:=Kbm (HC.out.later ab) hx;have aP:=Kcl hx;have bI:=Jit (c.take k);have aD:=Jnq (op,N);rw [List.length_take] at bI;have gl:=fun W=>Kcn op N W hR hI;unfold Y8 at gl;have eZ:=Nf aP;dsimp only at y0 y1;generalize Jdm (op,N)=bs at *;generalize dV:Ja7 (c.take k)=ins at *;clear aP hx hI hR dV
   go_wp2_with (first
    | (go_at_call 126;refine(gl _).mono ?_;rintro r w2 ⟨⟨v2,rfl,ao⟩,aq⟩;obtain⟨A2,c2,rfl,aY⟩:=Qc.of_own ao)
    | (at_builtin;go_loud (refine K6 rfl (.tmp 28) (.tmp 29) 98 rfl w.heap.size 5 _ 1 1 Tryz.underlying98 Jgl rfl Ua _ ins.length (byU ins) A2 bs.length c2 (byU bs) rfl (Jy ae aq) rfl aY.2.2 (Jgm _) Ua Ua (by have:=aq.size;omega) ?_;intro v3 w3 aE aM)))
   go_roundw
   case rel=>exact⟨k+1,Ua,Up,by rw [eZ.out,Jeu,Nk];exact aE,(Jd ab aq).trans aM⟩
   case measure=>simp [intOf];omega
  ·exact Uge
end Go.Proofs.YtknfcamdfdfoeaaGreatDoor
