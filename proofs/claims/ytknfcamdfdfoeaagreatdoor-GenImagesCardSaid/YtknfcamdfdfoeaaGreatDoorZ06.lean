/- Lemmas. -/
import Derived.Test.YtknfcamdfdfoeaaGreatDoorMac
import Derived.Test.YtknfcamdfdfoeaaGreatDoorZ05
import Derived.Test.YtknfcamdfdfoeaaGreatDoorZ02
import Derived.Test.YtknfcamdfdfoeaaGreatDoorZ04
import Derived.Test.YtknfcamdfdfoeaaGreatDoorZ01
import Derived.Laws.StructEq
import Derived.Test.YtknfcamdfdfoeaaGreatDoorZ00
set_option linter.unusedVariables false
set_option linter.unusedSimpArgs false
set_option maxRecDepth 100000
set_option maxHeartbeats 64000000
namespace Go.Proofs.YtknfcamdfdfoeaaGreatDoor
open Go.RowKit Go.Sort
theorem Jeo:∀(l:List Ex) (a:Int),0<=a->Ex.depthL l a=max a (Ex.depthL l 0)
 | [],a,h=>by simp [Ex.depthL];omega
 | x :: l,a,h=>by
  have hx:=Ex.depth_bd x;rw [Ex.depthL,Ex.depthL,Jeo l (max a x.depth) Ua,Jeo l (max 0 x.depth) Ua];exact Ua
theorem Jvn:∀(l:List Ex),0<=Ex.depthL l 0:=fun l=>by
 cases l with
 | nil=>simp [Ex.depthL]
 | cons x l=>have:=(Jhw (x :: l) 0 x Ul).2;omega
def Y6 (e:Ex) (most:Int):Int:=min (max 1 most) e.depth
theorem Jxd (e:Ex):∀(A:Option Addr) (cap:Nat) (most:Int) (w:World),Jt w e A cap->-1000<=most->most<=1000->
  Calls Tryz.prog 138 #[exV e A cap,.int .i64 most] w fun r w'=>r = .returned (.int .i64 (Y6 e most))/\Below w.heap.size w w':=by
 induction e using Ex.ind with
 | h e ih=>
 intro A cap most w he hm cI;have hl:=he.len;unfold maxLen at hl;obtain⟨bI,aD⟩:=hl;have qY:=Ex.depth_bd e
 by_cases h1:most<=1
 ·have hv:Y6 e most=1:=by unfold Y6;omega
  have HV:=Nf hv;clear hv;unfold exV
  go_enter Tryz.func138,Tryz.ntmps138
  exact Uc9
 have h1':¬most<=1:=h1;unfold exV
 go_enter Tryz.func138,Tryz.ntmps138
 go_wp2_with fail
 refine Jo fun W0 ag=>?_;have ax:=Nd w W0 Uo;have bD:w.heap.size<W0.heap.size:=La;have p3:=Nb W0 w.heap.size 3 (.slice A e.sub.length cap) Uc;clear ag;replace he:=he.later ax
 go_loopw [5,6] (fun m i wr=>∃(k:Nat) (m':Int),k<=e.sub.length/\i = .int .i64 k/\m = .int .i64 m'/\0<=m'/\m'<=most-1/\min (most-1) (Ex.depthL (e.sub.drop k) m')+1=Y6 e most/\Below W0.heap.size W0 wr) (fun _ i _=>e.sub.length-(intOf i).toNat)
 case atStart=>exact⟨0,0,Np,rfl,rfl,Ua,Ua,by unfold Y6;rw [Ex.depth_eq,List.drop_zero];omega,Nt⟩
 case round=>
  obtain⟨k,m',hk,rfl,rfl,h0,h2,aa,ab⟩:=hrel;have hc:=Jg ab;have bu:=ab.size
  by_cases am:k<e.sub.length
  ·obtain⟨x,hx,aj,hd⟩:=Kl am;obtain⟨b,off,A',cap',rfl,c0,c1,c2,c3,hs⟩:=(he.later ab).get hx;rw [hd,Ex.depthL] at aa;have ihx:=fun W h=>ih x aj A' cap' (most-1) W h Ua Ua;have hdx:=Ex.depth_bd x;have qW:=Jvn (e.sub.drop (k+1));rw [Jeo _ _ Ua] at aa;have oH:Y6 x (most-1)=min (most-1) x.depth:=by unfold Y6;omega
   have mH:=Jeo (e.sub.drop (k+1));generalize hD:Ex.depthL (e.sub.drop (k+1)) 0=D at aa qW mH
   by_cases hgt:m'<Y6 x (most-1)
   ·have bH:min (most-1) (Ex.depthL (e.sub.drop (k+1)) (Y6 x (most-1)))+1=Y6 e most:=by
     rw [mH _ Ua,<-aa,oH];omega
    have ac:0<=Y6 x (most-1):=Ua;have aq:Y6 x (most-1)<=most-1:=Ua;exact Ua4
   ·have bH:min (most-1) (Ex.depthL (e.sub.drop (k+1)) m')+1=Y6 e most:=by
     rw [mH _ Ua,<-aa];rw [oH] at hgt;omega
    exact Ua4
  ·have bk:k=e.sub.length:=Ua;rw [bk,Nn,Ex.depthL] at aa;have bH:m'+1=Y6 e most:=Ua;have HR:=Nf bH;clear aa bk bH;exact Uda
theorem Jo7 (x:Ex) (l:List Ex):Ex.formedL (x :: l)=(x.formed && Ex.formedL l):=by rw [Ex.formedL]
theorem Jsd (e:Ex):∀(A:Option Addr) (cap:Nat) (w:World),Jt w e A cap->e.OK->
  Calls Tryz.prog 139 #[exV e A cap] w fun r w'=>r = .returned (.bool e.formed)/\Below w.heap.size w w':=by
 induction e using Ex.ind with
 | h e ih=>
 intro A cap w he aw;have hl:=he.len;unfold maxLen at hl;obtain⟨bI,aD⟩:=hl;have hI:I32 e.n:=by cases e;simp only [Ex.OK,Ex.n] at *;exact aw.2.1
 have vW:=fun W=>Jty e A cap W hI;have hv:e.formed=(Jl e.kind e.n e.name e.sub.length && Ex.formedL e.sub):=Ex.formed_eq e;have HSUB:=Nf (fun x hx=>Ex.OK_sub aw (x:=x) hx);clear aw hI;generalize Jl e.kind e.n e.name e.sub.length=hf at *;have HV:=Nf hv;clear hv;unfold exV at *
 go_enter Tryz.func139,Tryz.ntmps139
 go_wp2_with (first|(go_at_call 161;refine mo (vW _) fun w1 ac ak af bV=>?_;(try simp at af)))
 refine Jo fun W0 ag=>?_;have ax:=Nd w W0 Uo;have bD:w.heap.size<W0.heap.size:=Lk;have p3:=Nb W0 w.heap.size 3 (.slice A e.sub.length cap) Uc;clear ag;replace he:=he.later ax
 go_loopw [3,4] (fun b i wr=>∃(k:Nat) (bb:Bool),k<=e.sub.length/\i = .int .i64 k/\b = .bool bb/\(bb && Ex.formedL (e.sub.drop k))=e.formed/\Below W0.heap.size W0 wr) (fun _ i _=>e.sub.length-(intOf i).toNat)
 case atStart=>exact⟨0,hf,Np,rfl,rfl,Vi,Nt⟩
 case round=>
  obtain⟨k,bb,hk,rfl,rfl,aa,ab⟩:=hrel;have hc:=Jg ab;have bu:=ab.size;have fF:=lt0 w wr
  by_cases am:k<e.sub.length
  ·cases bb
   ·have HR:=Nf aa;clear aa
    go_wp2_with fail
    exact Udg
   ·obtain⟨x,hx,aj,hd⟩:=Kl am;obtain⟨b,off,A',cap',rfl,c0,c1,c2,c3,hs⟩:=(he.later ab).get hx;rw [hd,Jo7,Bool.true_and] at aa;have ihx:=fun W h=>ih x aj A' cap' W h (HSUB.out x aj);unfold exV at ihx;generalize x.formed=xf at *;have HR:=Nf aa;clear aa hd hx
    go_wp2_with (first|(go_at_call 139;refine mo (ihx _ (hs.later Jb)) fun w1 ac ak af bV=>?_;(try simp at af)))
    exact Ueg
  ·have bk:k=e.sub.length:=Ua;rw [bk,Nn,Ex.formedL,Bool.and_true] at aa;have HR:=Nf aa;clear aa bk
   go_wp2_with fail
   exact Udg
theorem Jdb (e:Ex) (A:Option Addr) (cap:Nat) (w:World) (he:Jt w e A cap) (aw:e.OK) :
  Calls Tryz.prog 119 #[exV e A cap] w fun r w'=>r = .returned (.int .i64 e.right)/\Below w.heap.size w w':=by
 have hv:e.right=if 120<e.count 121 then 3 else if 12<e.depth then 17 else if e.formed then 0 else 4:=rfl;have av:=fun W h=>Jf2 e A cap 121 W (he.later h) Ua Ua;have qG:=fun W h=>Jxd e A cap 13 W (he.later h) Ua Ua;have iB:=fun W h=>Jsd e A cap W (he.later h) aw;have oH:12<Y6 e 13<->12<e.depth:=by unfold Y6;omega
 clear aw;unfold exV at *
 by_cases h1:120<e.count 121
 ·rw [if_pos h1] at hv;have HV:=Nf hv;clear hv;clear oH;generalize e.count 121=c1 at *
  go_enter Tryz.func119,Tryz.ntmps119
  go_wp2_with (first|(go_at_call 16;refine mo (av _ Jb) fun w1 ac ak af bV=>?_;(try simp at af)))
  exact Udf
 rw [if_neg h1] at hv
 by_cases h2:12<e.depth
 ·rw [if_pos h2] at hv;have tA:=oH.2 h2;have HV:=Nf hv;clear hv;clear oH;generalize e.count 121=c1 at *;generalize Y6 e 13=c2 at *
  go_enter Tryz.func119,Tryz.ntmps119
  go_wp2_with (first|(go_at_call 16;refine mo (av _ Jb) fun w1 ac ak af bV=>?_;(try simp at af))|(go_at_call 138;refine mo (qG _ Jb) fun w1 ac ak af bV=>?_;(try simp at af)))
  exact Udf
 rw [if_neg h2] at hv;have tA:¬12<Y6 e 13:=fun h=>h2 (oH.1 h);clear oH
 cases h3:e.formed
 ·rw [h3,if_neg Ul] at hv;exact Ufm
 ·rw [h3,if_pos rfl] at hv;exact Ufm
theorem Jd0 (a b c:ByteArray):a ++ b ++ c=a ++ (b ++ c):=by
 ext1;simp
theorem Jml (v:Va) (hs:Jb8 v) (w:World):Calls Tryz.prog 135 #[vaV v] w fun r w'=>r = .returned (.string (Jb9 v))/\Below w.heap.size w w':=by
 obtain⟨h1,h2⟩:=hs;unfold vaV
 by_cases c1:v.ck=1 <;> by_cases c2:v.ck=2 <;> by_cases c3:v.type=2 <;> first|omega |
 ·have hv:Jb9 v=Jb9 v:=rfl;rw (occs:= .pos [2]) [Jb9] at hv
  first|rw [if_pos c1] at hv|rw [if_neg c1,if_pos c2] at hv|rw [if_neg c1,if_neg c2] at hv
  first|rw [if_pos c3] at hv|rw [if_neg c3] at hv
  first|rw [<-Jd0] at hv|skip
  have HV:=Nf hv;clear hv
  go_enter Tryz.func135,Tryz.ntmps135
  go_wp2_with fail
  exact Uef
theorem Jlw (a:ByteArray):∀(l:List Va) (k:Nat) (s:ByteArray),Yr k (a ++ s) l=a ++ Yr k s l
 | [],_,_=>rfl
 | v :: l,k,s=>by
  rw [Yr,Yr,<-Jlw a l]
  congr 1
  by_cases h:0<k
  ·rw [if_pos h,if_pos h,Jd0,Jd0,Jd0]
  ·rw [if_neg h,if_neg h,Jd0]
def Y0 (l:List Va):ByteArray:=Yr 0 ⟨#[]⟩ l
theorem Jij (l:List Va):Y9 l=⟨#[40]⟩ ++ Y0 l ++ ⟨#[41]⟩:=by
 have h:(⟨#[40]⟩:ByteArray)=⟨#[40]⟩ ++ ⟨#[]⟩:=by ext1;simp
 unfold Y9 Y0;rw [<-Jlw,<-h]
theorem Jm4 (l:List Va) (A:Option Addr) (cap:Nat) (hs:∀v∈l,Jb8 v) (hn:l.length<=1000000) (w:World) (hl:Ju w l A cap) :
  Calls Tryz.prog 134 #[.slice A l.length cap] w fun r w'=>r = .returned (.string (Y0 l))/\Below w.heap.size w w':=by
 have aD:=hl.len;unfold maxLen at aD;obtain⟨fD,cG⟩:=aD;have cE:=Jcl l hs 0 ⟨#[]⟩
 have hz:(Y0 l).size<=100000000:=by
  unfold Y0;simp only [Ko,List.size_toArray,Nm] at cE;exact Ua
 clear cE;have hG:Yr 0 ⟨#[]⟩ l=Y0 l:=rfl;generalize Y0 l=G at *;have HG:=Nf hG;clear hG
 go_enter Tryz.func134,Tryz.ntmps134
 go_wp2_with fail
 go_loopw [3,4] (fun o i wr=>∃(k:Nat) (s:ByteArray),k<=l.length/\i = .int .i64 k/\o = .string s/\s.size<=62 * k/\Yr k s (l.drop k)=G/\Below w.heap.size w wr) (fun _ i _=>l.length-(intOf i).toNat)
 case atStart=>exact⟨0,⟨#[]⟩,Np,rfl,rfl,Ux,HG.out,Nt⟩
 case round=>
  obtain⟨k,s,hk,rfl,rfl,rV,aa,ab⟩:=hrel
  by_cases am:k<l.length
  ·have aj:l[k]∈l:=Nj am;have hx:l[k]?=some l[k]:=Ng am;have hd:l.drop k=l[k] :: l.drop (k+1):=No am;generalize l[k]=x at hx hd aj;obtain⟨b,off,rfl,aH,⟨d0,d1,d2,d3⟩⟩:=(hl.later ab).get hx;rw [hd,Yr] at aa;have mn:=hs x aj;have hds:=Jc9 mn;have eA:=fun W=>Jml x mn W;unfold vaV at eA;clear hd hx
   rcases Nat.eq_zero_or_pos k with h0|h0
   ·subst h0;rw [if_neg Ua] at aa;have HR:=Nf aa;clear aa;simp only [Nat.zero_mul,Nat.add_zero] at d0 d1 d2 d3
    go_wp2_with (first|(go_at_call 135;refine mo (eA _) fun w1 ac ak af bV=>?_;(try simp at af)))
    exact Ucu
   ·rw [if_pos h0] at aa;have HR:=Nf aa;clear aa;have h0':(0:Int)<k:=Ua;exact Uf3
  ·obtain rfl:k=l.length:=Ua;rw [Nn,Yr] at aa;have HR:=Nf aa;clear aa
   go_wp2_with fail
   go_ret;exact⟨Kk HR.out,Jb⟩
theorem Jl5 (e:Ex) (A:Option Addr) (cap:Nat) (w:World) (he:Jt w e A cap) (aw:e.OK) :
  Calls Tryz.prog 156 #[exV e A cap] w fun r w'=>r = .returned (.bool e.literal)/\Below w.heap.size w w':=by
 have hl:=he.len;unfold maxLen at hl;obtain⟨bI,aD⟩:=hl;have hv:e.literal=if e.right=0 then(if e.kind=4/\e.n=1 then(match e.sub with|x :: _=>x.kind == 1 | []=>false) else(e.kind == 1 || e.kind == 2)) else false:=rfl;have aB:=fun W h=>Jdb e A cap W (he.later h) aw;clear aw;unfold exV at aB ⊢
 cases h1:(e.right != 0)
 case true=>
  rw [if_neg (by intro h;rw [h] at h1;simp at h1)] at hv;exact Uf1
 have eV:=Jei h1;rw [if_pos eV] at hv
 cases h2:(e.kind == 4)
 case false=>
  rw [if_neg (by rintro⟨h,_⟩;rw [h] at h2;simp at h2)] at hv
  cases h3:(e.kind == 1)
  case true=>
   rw [h3,Bool.true_or] at hv;clear eV;exact Uf1
  rw [h3,Bool.false_or] at hv
  cases h5:(e.kind == 2)
  ·exact Ufx
  ·exact Ufx
 have iA:=Jbf h2;have h31:(e.kind == 1)=false:=by rw [iA];rfl
 have h32:(e.kind == 2)=false:=by rw [iA];rfl
 cases h4:(e.n == 1)
 case false=>
  rw [if_neg (by rintro⟨_,h⟩;rw [h] at h4;simp at h4),h31,h32] at hv;clear eV iA;replace hv:e.literal=false:=by rw [hv];rfl
  exact Uf1
 rw [if_pos ⟨iA,Jbf h4⟩] at hv;have hf:=(Ex.right_zero.1 eV).2.2;rw [Ex.formed_eq,Jl,iA] at hf
 have ai:e.sub.length=1:=by
  simp only [Jw,Bool.and_eq_true] at hf;have:=Jbf hf.1.1.1.1.1.2;simp at this;omega
 clear hf;have hx:e.sub[0]?=some e.sub[0]:=Ng Ua;generalize e.sub[0]=x at hx
 have aT:e.sub = [x]:=by
  generalize e.sub=l at ai hx
  match l,ai,hx with
  | [y],_,h=>simp at h;rw [h]
 rw [aT] at hv;obtain⟨b,off,A',cap',rfl,c0,c1,c2,c3,hs⟩:=he.get hx;have ax:b<w.heap.size:=Nu c0;have hb0':b<w.heap.size+1:=Ua;have hlen':0<e.sub.length:=Ua;simp only [Nat.zero_mul,Nat.add_zero] at c0;clear eV iA hx ai c1 c2 c3;have HS:=Nf aT;clear aT;have HV:=Nf hv;clear hv
 go_enter Tryz.func156,Tryz.ntmps156
 go_wp2_with (first|(go_at_call 119;refine mo (aB _ Jb) fun w1 ac ak af bV=>?_;(try simp at af)))
 go_ret;exact⟨Jk HV.out.symm,Jb⟩
theorem Jf9 (e:Ex):∀(y:Ex) (A:Option Addr) (cap:Nat) (A2:Option Addr) (cap2:Nat) (w:World),Jt w e A cap->Jt w y A2 cap2->
  Calls Tryz.prog 33 #[exV e A cap,exV y A2 cap2] w fun r w'=>r = .returned (.bool (e.same y))/\Below w.heap.size w w':=by
 induction e using Ex.ind with
 | h e ih=>
 intro y A cap A2 cap2 w he hy;have hl:=he.len;have qM:=hy.len;unfold maxLen at hl qM;obtain⟨bI,aD⟩:=hl;obtain⟨fD,cG⟩:=qM;have hv:=Ex.same_eq e y;unfold exV
 cases h1:(e.kind != y.kind)
 case true=>
   rw [Jgo h1,Bool.false_and,Bool.false_and,Bool.false_and,Bool.false_and] at hv;exact Uch
 rw [Jgi h1,Bool.true_and] at hv
 cases h2:(e.n != y.n)
 case true=>
   rw [Jgo h2,Bool.false_and,Bool.false_and,Bool.false_and] at hv;exact Uch
 rw [Jgi h2,Bool.true_and] at hv
 cases h3:(e.name.toList == y.name.toList)
 case false=>
   rw [h3,Bool.false_and,Bool.false_and] at hv;exact Uch
 rw [h3,Bool.true_and] at hv
 cases h4:((e.sub.length:Int) != y.sub.length)
 case true=>
   have oh:(e.sub.length == y.sub.length)=false:=by {simp at h4;simp;omega};rw [oh,Bool.false_and] at hv;clear oh
   exact Uch
 have oh:e.sub.length=y.sub.length:=by have:=Jei h4;omega
 rw [oh,beq_self_eq_true,Bool.true_and] at hv;have HV:=Nf hv;clear hv;have H4:=Nf oh;clear oh
 go_enter Tryz.func33,Tryz.ntmps33
 go_wp2_with fail
 go_loopw [5] (fun i wr=>∃(k:Nat),k<=e.sub.length/\i = .int .i64 k/\Ex.sameL (e.sub.drop k) (y.sub.drop k)=e.same y/\wr.cell? ⟨w.heap.size+1,3,none⟩=some (.slice A2 y.sub.length cap2)/\wr.cell? ⟨w.heap.size,3,none⟩=some (.slice A e.sub.length cap)/\Below w.heap.size w wr) (fun i _=>e.sub.length-(intOf i).toNat)
 case atStart=>exact⟨0,Np,rfl,Td,Uq,Uq,Jb⟩
 case round=>
  obtain⟨k,hk,rfl,aa,vV,hbox1,ab⟩:=hrel;have gt:=Nu vV;dsimp only at gt;have hbz':=lt0 w wr
  by_cases am:k<e.sub.length
  ·have dO:k<y.sub.length:=by have:=H4.out;omega
   obtain⟨x,hx,aj,hd⟩:=Kl am;obtain⟨b,off,A',cap',rfl,c0,c1,c2,c3,hs⟩:=(he.later ab).get hx;have qh:y.sub[k]?=some y.sub[k]:=Ng dO;have gN:y.sub.drop k=y.sub[k] :: y.sub.drop (k+1):=No dO;generalize y.sub[k]=x2 at qh gN;obtain⟨b2,off2,A2',cap2',rfl,g0,g1,g2,g3,gq⟩:=(hy.later ab).get qh;rw [hd,gN,Ex.sameL] at aa;have ihx:=ih x aj;have aq:=Nu g0;dsimp only at aq;have iJ:b2<wr.heap.size+1:=Ua;have eM:b<wr.heap.size:=Nu c0
   cases jN:x.same x2
   ·rw [jN] at aa;have HR:=Nf aa;clear aa hd gN hx qh
    go_wp2_with fail
    refine Jx Ug Ug (fun bj=>?_)
    repeat (quiet_step ((go_at_call 33;exact Calls.regrown_of (ihx x2 _ _ _ _ _ (hs.later Jb) (gq.later Jb)))))
    exact Ubt
   ·rw [jN] at aa;have HR:=Nf aa;clear aa hd gN hx qh
    go_wp2_with fail
    refine Jx Ug Ug (fun bj=>?_)
    repeat (quiet_step ((go_at_call 33;exact Calls.regrown_of (ihx x2 _ _ _ _ _ (hs.later Jb) (gq.later Jb)))))
    refine wpQuiet_nil ?_;intro wq au;replace au:=qbo au;obtain⟨au,dA,bh⟩:=au;clear bj
    (try simp at bh)
    go_wp2_with fail
    go_roundw
    case rel=>exact⟨k+1,Ua,Up,HR.out,Udo,Udo,Jb⟩
    case measure=>simp [intOf];omega
  ·exact Ubu
theorem Jh6 (l:List Va) (A:Option Addr) (cap:Nat) (own:Bool) (w:World) (hl:Ju w l A cap) :
  Calls Tryz.prog 155 #[.slice A l.length cap,.bool own] w fun r w'=>r = .returned (.bool (l.all (Ke · own)))/\Below w.heap.size w w':=by
 have ai:=hl.len;unfold maxLen at ai;obtain⟨jD,jE⟩:=ai
 go_enter Tryz.func155,Tryz.ntmps155
 go_wp2_with fail
 go_loopw [5] (fun i wr=>∃k:Nat,k<=l.length/\i = .int .i64 k/\(l.drop k).all (Ke · own)=l.all (Ke · own)/\Below w.heap.size w wr) (fun i _=>l.length-(intOf i).toNat)
 case atStart=>exact⟨0,Np,rfl,rfl,Jb⟩
 case round=>
  obtain⟨k,hk,rfl,aa,ab⟩:=hrel
  by_cases am:k<l.length
  ·obtain⟨x,hx,-,hd⟩:=Kl am;obtain⟨b,off,rfl,aH,⟨d0,d1,d2,d3⟩⟩:=(hl.later ab).get hx;rw [hd,List.all_cons] at aa;have eR:=fun W=>Xt x.name W;have eu:=fun W=>Xt x.cn W;clear hd hx
   cases hU:Ke x own
   ·rw [hU,Bool.false_and] at aa;have HR:=Nf aa;clear aa;have kS:=Nf hU;clear hU
    cases ac:Kz x.name <;> cases aq:Kz x.cn <;> cases own <;> rw [ac] at eR <;> rw [aq] at eu <;>
    ·go_wp2_with (first|(go_at_call_of 154 (Value.string x.name);refine(eR _).mono ?_;rintro r w1 ⟨rfl,jU⟩;have ak:=Jg jU;have af:=jU.size;(try simp at af))|(go_at_call_of 154 (Value.string x.cn);refine(eu _).mono ?_;rintro r w2 ⟨rfl,bG⟩))
     all_goals first
      | (exfalso;have hh:=kS.out;clear eR eu;simp_all [Ke];done)
      | (go_ret;exact⟨Jk HR.out,Jb⟩)
   ·rw [hU,Bool.true_and] at aa;have HR:=Nf aa;clear aa;have kS:=Nf hU;clear hU
    cases ac:Kz x.name <;> cases aq:Kz x.cn <;> cases own <;> rw [ac] at eR <;> rw [aq] at eu <;> first
     | (exfalso;have hh:=kS.out;clear eR eu;simp_all [Ke];done)
     | skip
    all_goals
     go_wp2_with (first|(go_at_call_of 154 (Value.string x.name);refine(eR _).mono ?_;rintro r w1 ⟨rfl,jU⟩;have ak:=Jg jU;have af:=jU.size;(try simp at af))|(go_at_call_of 154 (Value.string x.cn);refine(eu _).mono ?_;rintro r w2 ⟨rfl,bG⟩))
     all_goals first
      | (exfalso;have hh:=kS.out;clear eR eu;simp_all [Ke];done)
      | (
        go_roundw
        case rel=>exact⟨k+1,Ua,Up,HR.out,Jb⟩
        case measure=>simp [intOf];omega)
  ·obtain rfl:k=l.length:=Ua;exact Ucg
theorem Jo2 (p:Pr) (a:PrA) (w:World) (hp:Kr w p a) (aw:Q4 p) :
  Calls Tryz.prog 133 #[prV p a] w fun r w'=>r = .returned (.bool (Qw p))/\Below w.heap.size w w':=by
 have hn:=fun W=>Xt p.name W;have fC:=fun W h=>Jh6 p.ins _ _ false W (hp.ins.later h);have aI:=fun W h=>Jh6 p.outs _ _ false W (hp.outs.later h);have iM:=fun W h=>Jh6 p.locals _ _ true W (hp.locals.later h);have hv:Qw p=(Kz p.name && p.ins.all (Ke · false) && p.outs.all (Ke · false) && p.locals.all (Ke · true) && p.eqs.all eqB):=rfl;have kc:=Nf aw.eqs;clear aw;have bT:=hp.eqs;have cG:=hp.eqs.len;obtain⟨A1,c1,A2,c2,A3,c3,A4,c4⟩:=a;unfold maxLen at cG;unfold prV;dsimp only at *;obtain⟨fT,fU⟩:=cG;clear hp;generalize Kz p.name=b0 at *;generalize (p.ins.all (Ke · false))=b1 at *;generalize (p.outs.all (Ke · false))=b2 at *;generalize (p.locals.all (Ke · true))=b3 at *
 cases b0
 ·simp only [Bool.false_and] at hv;have HV:=Nf hv;clear hv
  go_enter Tryz.func133,Tryz.ntmps133
  go_wp2_with (first|(go_at_call_of 154 (Value.string p.name);refine(hn _).mono ?_;rintro r wa ⟨rfl,aA⟩;have aW:=Jg aA;have cN:=aA.size;(try simp at cN);have dG:=lt0 w wa)|(go_at_call_of 155 (Value.slice A1 p.ins.length c1);refine(fC _ Jb).mono ?_;rintro r wb ⟨rfl,aH⟩;have el:=Jg aH;have dH:=aH.size;have cA:=lt0 w wb)|(go_at_call_of 155 (Value.slice A2 p.outs.length c2);refine(aI _ Jb).mono ?_;rintro r wc ⟨rfl,bU⟩;have cB:=Jg bU;have iG:=bU.size;have kh:=lt0 w wc)|(go_at_call_of 155 (Value.slice A3 p.locals.length c3);refine(iM _ Jb).mono ?_;rintro r wd ⟨rfl,ct⟩;have jK:=Jg ct;have ir:=ct.size;have ly:=lt0 w wd))
  go_ret;exact⟨Jk HV.out.symm,Jb⟩
 cases b1
 ·exact Bg
 cases b2
 ·exact Bg
 cases b3
 ·exact Bg
 simp only [Bool.true_and] at hv;have HV:=Nf hv;clear hv
 go_enter Tryz.func133,Tryz.ntmps133
 go_wp2_with (first|(go_at_call_of 154 (Value.string p.name);refine(hn _).mono ?_;rintro r wa ⟨rfl,aA⟩;have aW:=Jg aA;have cN:=aA.size;(try simp at cN);have dG:=lt0 w wa)|(go_at_call_of 155 (Value.slice A1 p.ins.length c1);refine(fC _ Jb).mono ?_;rintro r wb ⟨rfl,aH⟩;have el:=Jg aH;have dH:=aH.size;have cA:=lt0 w wb)|(go_at_call_of 155 (Value.slice A2 p.outs.length c2);refine(aI _ Jb).mono ?_;rintro r wc ⟨rfl,bU⟩;have cB:=Jg bU;have iG:=bU.size;have kh:=lt0 w wc)|(go_at_call_of 155 (Value.slice A3 p.locals.length c3);refine(iM _ Jb).mono ?_;rintro r wd ⟨rfl,ct⟩;have jK:=Jg ct;have ir:=ct.size;have ly:=lt0 w wd))
 refine Jo fun W0 ag=>?_;have ax:=Nd w W0 Uo;have bD:w.heap.size<W0.heap.size:=Lk;have k4:=Nb W0 w.heap.size 4 (.slice A4 p.eqs.length c4) Uc;clear ag;replace bT:=bT.later ax;clear hn fC aI iM
 go_loopw [3] (fun i wr=>∃k:Nat,k<=p.eqs.length/\i = .int .i64 k/\(p.eqs.drop k).all eqB=Qw p/\Below W0.heap.size W0 wr) (fun i _=>p.eqs.length-(intOf i).toNat)
 case atStart=>exact⟨0,Np,rfl,HV.out.symm,Nt⟩
 case round=>
  obtain⟨k,hk,rfl,aa,ab⟩:=hrel;have hc:=Jg ab;have bu:=ab.size;have fF:=lt0 w wr;have fa:w.heap.size<wr.heap.size+1:=Ua
  by_cases am:k<p.eqs.length
  ·obtain⟨q,hx,-,hd⟩:=Kl am;obtain⟨b,off,B1,n1,B2,n2,rfl,aH,⟨g0,g1,g2,g3,g4,g5,g6,g7,g8,g9,s1,s2⟩⟩:=(bT.later ab).get hx;rw [hd,List.all_cons,Juw] at aa;obtain⟨_,_,ln,jm⟩:=kc.out q (Ni hx);have aL:=fun W=>Xt q.name W;have bF:=fun W h=>Jf9 q.first Ex.zero B1 n1 none 0 W (s1.later h) (Jvg W);have cU:=fun W h=>Jl5 q.first B1 n1 W (s1.later h) ln;have lm:=fun W h=>Jdb q.e B2 n2 W (s2.later h) jm;unfold exV at bF cU lm;have ek:Jch q=if q.delay=1 then q.first.literal else if q.delay=0\/q.delay=2 then q.first.same Ex.zero else false:=rfl;clear hd hx ln jm;generalize q.first.literal=bl at *;generalize q.first.same Ex.zero=bs at *;generalize Kz q.name=bn at *;dsimp only [Ex.zero,Ex.kind,Ex.n,Ex.name,Ex.sub,Nm] at bF
   by_cases js:q.delay=1
   ·rw [if_pos js] at ek;rw [ek] at aa;have td:(q.delay == 1)=true:=by rw [js];rfl
    have tlo:¬q.delay<0:=Ua;have thi:¬2<q.delay:=Ua;clear ek js;generalize q.e.right=er at *
    cases ht:(er != 0) <;> (have nQ:(er == 0)=!(er != 0):=by rw [bne,Bool.not_not]) <;> rw [nQ,ht] at aa <;> clear nQ <;> cases bn <;> cases bl <;> simp only [Bool.true_and,Bool.false_and,Bool.and_true,Bool.and_false,Bool.not_true,Bool.not_false] at aa <;>
    ·exact Be
   ·rw [if_neg js] at ek;have td:(q.delay == 1)=false:=by simpa using js
    by_cases tlo:q.delay<0
    ·exact T8
    by_cases thi:2<q.delay
    ·exact T8
    rw [if_pos Ua] at ek;rw [ek] at aa;clear ek js;generalize q.e.right=er at *
    cases ht:(er != 0) <;> (have nQ:(er == 0)=!(er != 0):=by rw [bne,Bool.not_not]) <;> rw [nQ,ht] at aa <;> clear nQ <;> cases bn <;> cases bs <;> simp only [Bool.true_and,Bool.false_and,Bool.and_true,Bool.and_false,Bool.not_true,Bool.not_false] at aa <;>
    ·exact Be
  ·obtain rfl:k=p.eqs.length:=Ua;exact Ucg
end Go.Proofs.YtknfcamdfdfoeaaGreatDoor
